/- What the interpreter's data have to do with the model's memory; what stays when memory grows. A tree that an operation yields is taken into the list of rows: what then holds. What a value is to a function that only reads it; rows that are not written any more. What a result is to the caller. Each operation that turns no row does in the model what it does in the interpreter. Operations that build values and rows. Slices that are made; the operations put together. An operation that turns no row does in the model what it does in the interpreter. Conditions: those that each names. -/
import Derived.Test.YtiagecndhhinfaaGreatEv
namespace Go.Av
def mg(H:Array Obj)(b:Nat):Option Nat:=
  match H[b]? with
  |some (.cells cur _ _)=>some cur.size
  |_=>none
def Row(H:Array Obj)(b o:Nat)(us:List Value):Prop:=
  ∃ cur e fz,H[b]? =some (.cells cur e fz)/\ ∀ i u,us[i]? =some u->cur[o+i]? =some u
inductive VC (H:Array Obj) (F:Nat→Prop):AV→Value→Prop
  |v {x}:VC H F (.v x) x
  |gB {a c}:VC H F (.arr 0 []) (.slice a 0 c)
  |arr {n xs b o c us} (hc:n≤c) (hF:F b) (hr:Row H b o us) (hl:xs.length=us.length)
      (hx: ∀ (i:Nat) x u,xs[i]? =some x->us[i]? =some u->VC H F x u):VC H F (.arr n xs) (.slice (some ⟨b,o,none⟩) n c)
  |ay {xs off b o us} (hF:F b) (hr:Row H b o us) (hl:xs.length=us.length)
      (hx: ∀ (i:Nat) x u,xs[i]? =some x->us[i]? =some u->VC H F x u):VC H F (.ay xs off) (.pointer (some ⟨b,o+off,none⟩))
  | fn {f first cap us vs} (h1:first.length=us.length) (h2: ∀ (i:Nat) x u,first[i]? =some x→us[i]? =some u→VC H F x u)
      (h3:cap.length=vs.length) (h4: ∀ (i:Nat) x u,cap[i]? =some x->vs[i]? =some u->VC H F x u):VC H F (.fn f first cap) (.func (.func f) ⟨us⟩ ⟨vs⟩)
  |agg {xs us} (hl:xs.length=us.length) (hx: ∀ (i:Nat) x u,xs[i]? =some x->us[i]? =some u->VC H F x u):VC H F (.agg xs) (.agg ⟨us⟩)
  |tuple {xs us} (hl:xs.length=us.length) (hx: ∀ (i:Nat) x u,xs[i]? =some x->us[i]? =some u->VC H F x u):VC H F (.tuple xs) (.tuple ⟨us⟩)
def OwnAt(H:Array Obj)(M:Id→Option Nat)(id:Id)(off n ext sz:Nat)(a:Option Addr)(c:Nat):Prop:=
  ext*sz<=off+c*sz/\((n=0/\c=0)∨ ∃ b S,M id=some b/\a=some ⟨b,off,none⟩/\mg H b=some S/\off+c*sz<=S)
inductive VR (H:Array Obj) (F:Nat→Prop) (h:Heap) (M:Id→Option Nat):AV→Value→Prop
  |c {x u} (hc:VC H F x u):VR H F h M x u
  |own {id off n ext a c cl rw sz e cells} (hg:h.get id=some (.sl cl rw sz e cells)) (hn:n≤c) (hle:ext≤e) (ho:e=ext→OwnAt H M id off n ext sz a c):
      VR H F h M (.own id off n ext) (.slice a n c)
  |ptr {id off ext blk a} (hg:h.get id=some blk) (hle:ext<=blk.ext) (ho:blk.ext=ext-> ∃ b,M id=some b/\a=some ⟨b,off,none⟩):VR H F h M (.ptr id off ext) (.pointer a)
  | fn {f first cap us vs} (h1:first.length=us.length) (h2: ∀ (i:Nat) x u,first[i]? =some x→us[i]? =some u→VR H F h M x u)
      (h3:cap.length=vs.length) (h4: ∀ (i:Nat) x u,cap[i]? =some x->vs[i]? =some u->VR H F h M x u):VR H F h M (.fn f first cap) (.func (.func f) ⟨us⟩ ⟨vs⟩)
  |agg {xs us} (hl:xs.length=us.length) (hx: ∀ (i:Nat) x u,xs[i]? =some x->us[i]? =some u->VR H F h M x u):VR H F h M (.agg xs) (.agg ⟨us⟩)
  |tuple {xs us} (hl:xs.length=us.length) (hx: ∀ (i:Nat) x u,xs[i]? =some x->us[i]? =some u->VR H F h M x u):VR H F h M (.tuple xs) (.tuple ⟨us⟩)
def tH(H:Array Obj)(F:Nat→Prop)(h:Heap)(M:Id→Option Nat)(id:Id):ak→Prop
  | .sl cl rw sz ext cells=>cells.length=ext*sz∧((ext=0∧M id=none)∨ ∃ b cur e,M id=some b∧H[b]? =some (.cells cur e (0,0))∧
      (rw=true-> ¬ F b)/\(rw=false->F b)/\ ∀ (i:Nat) x,cells[i]? =some x-> ∃ u,cur[i]? =some u/\(cl=true->VC H F x u)/\(cl=false->VR H F h M x u))
  | .bx rw cells=> ∃ b cur e,M id=some b∧H[b]? =some (.cells cur e (0,0))∧cells.length=cur.size∧
      (rw=true-> ¬ F b)/\(rw=false->F b)/\ ∀ (i:Nat) x,cells[i]? =some x-> ∃ u,cur[i]? =some u/\VR H F h M x u
structure aQ (H:Array Obj) (F:Nat→Prop) (h:Heap) (M:Id→Option Nat):Prop where
  row: ∀ id blk,h.get id=some blk->tH H F h M id blk
  inj: ∀ id id' blk blk' b,h.get id=some blk->h.get id'=some blk'->M id=some b->M id'=some b->id=id'
  fb: ∀ b,F b->b<H.size
theorem get_set_same: ∀ (h:Heap) (k:Id) (y:ak),(h.set k y).get k=some y
  |[],k,y=>by simp[Heap.set,Heap.get]
  | (j,x)::h,k,y=>by
    by_cases e:j=k
    · simp[Heap.set,Heap.get,e]
    · simp[Heap.set,Heap.get,e,get_set_same h k y]
theorem jU: ∀ (h:Heap) (k i:Id) (y:ak),i≠k→(h.set k y).get i=h.get i
  |[],k,i,y,hn=>by simp[Heap.set,Heap.get,Ne.symm hn]
  | (j,x)::h,k,i,y,hn=>by
    by_cases e:j=k
    · subst e;simp[Heap.set,Heap.get,Ne.symm hn]
    · by_cases e2:j=i
      · simp only[Heap.set,if_neg e];simp[Heap.get,e2]
      · simp[Heap.set,Heap.get,e,e2,jU h k i y hn]
theorem En(h:Heap)(k i:Id)(y:ak):(h.set k y).get i=if i=k then some y else h.get i:=by
  by_cases e:i=k
  · subst e;simp[get_set_same]
  · simp[e,jU h k i y e]
theorem vK{h h':Heap}{k:Id}{y:ak}(e:h.new k y=some h'):h.get k=none∧h'=h.set k y:=by
  unfold Heap.new at e
  split at e
  · injection e with e;exact⟨by assumption,e.symm⟩
  · cases e
theorem wU: ∀ (e:Env) (k:Nat) (y:AV),(e.set k y).get k=some y
  |[],k,y=>by simp[Env.set,Env.get]
  | (j,x)::e,k,y=>by
    unfold Env.set
    split
    · rename_i h;simp[Env.get,h]
    · rename_i h
      split
      · simp[Env.get]
      · simp[Env.get,h,wU e k y]
theorem uY: ∀ (e:Env) (k i:Nat) (y:AV),i≠k→(e.set k y).get i=e.get i
  |[],k,i,y,hn=>by simp[Env.set,Env.get,Ne.symm hn]
  | (j, x)::e,k,i,y,hn=>by
    unfold Env.set
    split
    · rename_i h;subst h;simp[Env.get,Ne.symm hn]
    · split
      · simp[Env.get,Ne.symm hn]
      · by_cases e2:j=i
        · simp[Env.get,e2]
        · simp[Env.get,e2,uY e k i y hn]
theorem oK{α β:Type}{R:α→β→Prop}{xs:List α}{us:List β}(hl:xs.length=us.length)(h: ∀ (i:Nat) x u,xs[i]? =some x→us[i]? =some u→R x u)
    {i:Nat} {x:α} (hx:xs[i]? =some x): ∃ u,us[i]? =some u/\R x u:=by
  have hi:i<xs.length:=(List.getElem?_eq_some_iff.1 hx).1
  have:us[i]? =some us[i]:=List.getElem?_eq_getElem ae
  exact⟨_,this,h i _ _ hx this⟩
theorem Row.keep{H H':Array Obj}{b o:Nat}{us:List Value}(h:Row H b o us)(hk:H'[b]? =H[b]?):Row H' b o us:=by
  obtain⟨cur,e,fz,h1,h2⟩:=h
  exact⟨cur,e,fz,hk.trans h1,h2⟩
theorem VC.keep{H H':Array Obj}{F F':Nat→Prop}(hF: ∀ b,F b→F' b)(hk: ∀ b,F b→H'[b]? =H[b]?){x:AV}{u:Value}(h:VC H F x u):VC H' F' x u:=by
  induction h with
  |v=>exact .v
  |gB=>exact .gB
  |arr hc hf hr hl _ ih=>exact .arr hc (hF _ hf) (hr.keep (hk _ hf)) hl ih
  |ay hf hr hl _ ih=>exact .ay (hF _ hf) (hr.keep (hk _ hf)) hl ih
  |fn h1 _ h3 _ i1 i2=>exact .fn h1 i1 h3 i2
  |agg hl _ ih=>exact .agg hl ih
  |tuple hl _ ih=>exact .tuple hl ih
structure Held (H H':Array Obj) (M M':Id→Option Nat) (id:Id) (x y:ak):Prop where
  sl: ∀ cl rw sz e cs,x= .sl cl rw sz e cs-> ∃ cl' rw' e' cs',y= .sl cl' rw' sz e' cs'/\e<=e'
  ext:x.ext<=y.ext
  same:x.ext=y.ext->M' id=M id/\ ∀ b,M id=some b->mg H' b=mg H b
theorem VR.keep{H H':Array Obj}{F F':Nat→Prop}{h h':Heap}{M M':Id→Option Nat}(hF: ∀ b,F b→F' b)(hk: ∀ b,F b→H'[b]? =H[b]?)
    (hh: ∀ id x,h.get id=some x-> ∃ y,h'.get id=some y/\Held H H' M M' id x y) {x:AV} {u:Value} (hv:VR H F h M x u):VR H' F' h' M' x u:=by
  induction hv with
  |c hc=>exact .c (hc.keep hF hk)
  | @own id off n ext a c cl rw sz e cells hg hn hle ho=>
    obtain⟨y,hy,hd⟩:=hh _ _ hg
    obtain⟨cl',rw',e',cs',rfl,hle'⟩:=hd.sl _ _ _ _ _ rfl
    refine .own hy hn ae λhe=> ?_
    obtain rfl:e=ext:=ae
    obtain⟨hM,hS⟩:=hd.same (by simp only[ak.ext];omega)
    obtain⟨hx,ho⟩:=ho rfl
    refine⟨hx,?_⟩
    rcases ho with h0|⟨b,S,h1,h2,h3,h4⟩
    · exact .inl h0
    · exact .inr ⟨b,S,hM.trans h1,h2,(hS b h1).trans h3,h4⟩
  | @ptr id off ext blk a hg hle ho=>
    obtain⟨y,hy,hd⟩:=hh _ _ hg
    have hx:=hd.ext
    refine .ptr hy ae λhe=> ?_
    obtain⟨hM,_⟩:=hd.same ae
    obtain⟨b,h1,h2⟩:=ho ae
    exact⟨b,hM.trans h1,h2⟩
  |fn h1 _ h3 _ i1 i2=>exact .fn h1 i1 h3 i2
  |agg hl _ ih=>exact .agg hl ih
  |tuple hl _ ih=>exact .tuple hl ih
theorem tH.keep{H H':Array Obj}{F F':Nat→Prop}{h h':Heap}{M M':Id→Option Nat}(hF: ∀ b,F b→F' b)(hk: ∀ b,F b→H'[b]? =H[b]?)
    (hh: ∀ id x,h.get id=some x-> ∃ y,h'.get id=some y/\Held H H' M M' id x y) {id:Id} {blk:ak} (hr:tH H F h M id blk)
    (hM:M' id=M id) (hb: ∀ b,M id=some b->H'[b]? =H[b]? /\(blk.rw=true->F' b->F b)):tH H' F' h' M' id blk:=by
  cases blk with
  | sl cl rw sz ext cells=>
    obtain⟨hl,hr⟩:=hr
    refine⟨hl,?_⟩
    rcases hr with⟨h0,h1⟩|⟨b,cur,e,h1,h2,h3,h4,h5⟩
    · exact .inl ⟨h0,hM.trans h1⟩
    · refine .inr ⟨b,cur,e,hM.trans h1,(hb b h1).1.trans h2,fun e1 e2=>h3 e1 ((hb b h1).2 e1 e2),fun e1=>hF _ (h4 e1),fun i x hx=> ?_⟩
      obtain⟨u,a1,a2,a3⟩:=h5 i x hx
      exact⟨u,a1,λe=>(a2 e).keep hF hk,λe=>(a3 e).keep hF hk hh⟩
  | bx rw cells=>
    obtain⟨b,cur,e,h1,h2,hl,h3,h4,h5⟩:=hr
    refine⟨b,cur,e,hM.trans h1,(hb b h1).1.trans h2,hl,λe1 e2=>h3 e1 ((hb b h1).2 e1 e2),λe1=>hF _ (h4 e1),λi x hx=> ?_⟩
    obtain⟨u,a1,a2⟩:=h5 i x hx
    exact⟨u,a1,a2.keep hF hk hh⟩
theorem Held.refl{H H':Array Obj}{M M':Id→Option Nat}{id:Id}{x:ak}(hM:M' id=M id)(hb: ∀ b,M id=some b→mg H' b=mg H b):Held H H' M M' id x x:=
  ⟨λ_ _ _ _ _ e=>⟨_,_,_,_,e,Nat.le_refl _⟩,Nat.le_refl _,λ_=>⟨hM,hb⟩⟩
theorem xH{H H':Array Obj}{b:Nat}(h:H'[b]? =H[b]?):mg H' b=mg H b:=by unfold mg;rw[h]
mutual
inductive TR (H:Array Obj) (C R:AV→Value→Prop):AV→Value→List Nat→Prop
  |base {x u} (h:R x u):TR H C R x u []
  |nil {sz a}:TR H C R (.fresh sz 0 []) (.slice a 0 0) []
  |fresh {sz n xs b cur e c} (hb:H[b]? =some (.cells cur e (0,0))) (hc:n≤c) (hs:c*sz≤cur.size) (hl:xs.length=n*sz)
      (hx: ∀ (i:Nat) x,xs[i]? =some x-> ∃ u,cur[i]? =some u/\C x u):TR H C R (.fresh sz n xs) (.slice (some ⟨b,0,none⟩) n c) [b]
  |open_ {sz n xs b cur e c} (hb:H[b]? =some (.cells cur e (0,0))) (hc:n≤c) (hs:c*sz≤cur.size) (hl:xs.length=n*sz)
      (hx: ∀ (i:Nat) x,xs[i]? =some x-> ∃ u,cur[i]? =some u/\R x u):TR H C R (.freshO sz n xs) (.slice (some ⟨b,0,none⟩) n c) [b]
  |newbx {xs us b e bs} (hb:H[b]? =some (.cells ⟨us⟩ e (0,0))) (hx:dO H C R xs us bs):TR H C R (.newbx xs) (.pointer (some ⟨b,0,none⟩)) (b::bs)
  |agg {xs us bs} (hx:dO H C R xs us bs):TR H C R (.agg xs) (.agg ⟨us⟩) bs
  |tuple {xs us bs} (hx:dO H C R xs us bs):TR H C R (.tuple xs) (.tuple ⟨us⟩) bs
inductive dO (H:Array Obj) (C R:AV→Value→Prop):List AV→List Value→List Nat→Prop
  |nil:dO H C R [] [] []
  |cons {x xs u us bs bs'} (h:TR H C R x u bs) (hs:dO H C R xs us bs'):dO H C R (x::xs) (u::us) (bs++bs')
end
end Go.Av
namespace Go.Av
mutual
theorem TR.mono{H:Array Obj}{C R C' R':AV→Value→Prop}(hC: ∀ x u,C x u→C' x u)(hR: ∀ x u,R x u→R' x u): ∀ {x:AV} {u:Value} {bs:List Nat},TR H C R x u bs→TR H C' R' x u bs
  |_,_,_,.base h=> .base (hR _ _ h)
  |_,_,_,.nil=> .nil
  |_,_,_,.fresh hb hc hs hl hx=> .fresh hb hc hs hl λi x h=>(hx i x h).imp λ_ h=>⟨h.1,hC _ _ h.2⟩
  |_,_,_,.open_ hb hc hs hl hx=> .open_ hb hc hs hl λi x h=>(hx i x h).imp λ_ h=>⟨h.1,hR _ _ h.2⟩
  |_,_,_,.newbx hb hx=> .newbx hb (dO.mono hC hR hx)
  |_,_,_,.agg hx=> .agg (dO.mono hC hR hx)
  |_,_,_,.tuple hx=> .tuple (dO.mono hC hR hx)
theorem dO.mono{H:Array Obj}{C R C' R':AV→Value→Prop}(hC: ∀ x u,C x u→C' x u)(hR: ∀ x u,R x u→R' x u): ∀ {xs:List AV} {us:List Value} {bs:List Nat},dO H C R xs us bs→dO H C' R' xs us bs
  |_,_,_,.nil=> .nil
  |_,_,_,.cons h hs=> .cons (TR.mono hC hR h) (dO.mono hC hR hs)
end
def Ext(h:Heap)(M:Id->Option Nat)(h':Heap)(M':Id->Option Nat):Prop:= ∀ id x,h.get id=some x->h'.get id=some x/\M' id=M id
theorem Ext.refl(h:Heap)(M:Id->Option Nat):Ext h M h M:=λ_ _ e=>⟨e,rfl⟩
theorem Ext.trans{h h1 h2:Heap}{M M1 M2:Id→Option Nat}(a:Ext h M h1 M1)(b:Ext h1 M1 h2 M2):Ext h M h2 M2:=
  λid x e=>let ⟨e1,m1⟩:=a id x e;let ⟨e2,m2⟩:=b id x e1;⟨e2,m2.trans m1⟩
theorem Ext.held{H:Array Obj}{h h':Heap}{M M':Id→Option Nat}(a:Ext h M h' M'): ∀ id x,h.get id=some x→ ∃ y,h'.get id=some y∧Held H H M M' id x y:=
  λid x e=>⟨x,(a id x e).1,Held.refl (a id x e).2 λ_ _=>rfl⟩
theorem VR.ext{H:Array Obj}{F:Nat→Prop}{h h':Heap}{M M':Id→Option Nat}(a:Ext h M h' M'){x:AV}{u:Value}(hv:VR H F h M x u):VR H F h' M' x u:=
  hv.keep (λ_ h=>h) (λ_ _=>rfl) a.held
theorem tH.ext{H:Array Obj}{F:Nat→Prop}{h h':Heap}{M M':Id→Option Nat}(a:Ext h M h' M'){id:Id}{x:ak}(e:h.get id=some x)(hr:tH H F h M id x):tH H F h' M' id x:=
  hr.keep (λ_ h=>h) (λ_ _=>rfl) a.held (a id x e).2 λ_ _=>⟨rfl,λ_ h=>h⟩
structure rW (H:Array Obj) (F:Nat→Prop) (bs:List Nat) (h:Heap) (M:Id→Option Nat) (h':Heap) (M':Id→Option Nat):Prop where
  ext:Ext h M h' M'
  ok:aQ H F h' M'
  new: ∀ id x,h'.get id=some x->h.get id=none->x.rw=true/\ ∀ b,M' id=some b->b ∈ bs
def kJ(M:Id->Option Nat)(k:Id)(o:Option Nat):Id->Option Nat:=λi=>if i=k then o else M i
theorem o6{M:Id->Option Nat}{k:Id}{o:Option Nat}:kJ M k o k=o:=by simp[kJ]
theorem vX{M:Id->Option Nat}{k i:Id}{o:Option Nat}(h:i≠k):kJ M k o i=M i:=by simp[kJ,h]
theorem Rw{h h':Heap}{M:Id→Option Nat}{k:Id}{y:ak}{o:Option Nat}(e:h.new k y=some h'):Ext h M h' (kJ M k o):=by
  obtain⟨h0,rfl⟩:=vK e
  intro id x hx
  have hne:id≠k:=λhe=>by subst he;rw[h0]at hx;cases hx
  exact⟨by rw[jU _ _ _ _ hne];exact hx,vX hne⟩
theorem Et{H:Array Obj}{F:Nat→Prop}{h h':Heap}{M:Id→Option Nat}{k:Id}{y:ak}{o:Option Nat}{bs:List Nat}(hk:aQ H F h M)(e:h.new k y=some h')
    (hrw:y.rw=true) (ho: ∀ b,o=some b->b ∈ bs/\ ∀ id x,h.get id=some x->M id≠some b) (hr:tH H F h' (kJ M k o) k y):rW H F bs h M h' (kJ M k o):=by
  have hx:=Rw (M:=M) (o:=o) e
  obtain⟨h0,rfl⟩:=vK e
  refine⟨hx,⟨λid x hg=> ?_,λid id' x x' b g1 g2 m1 m2=> ?_,hk.fb⟩,λid x hg hn=> ?_⟩
  · by_cases he:id=k
    · subst he;rw[get_set_same]at hg;injection hg with hg;subst hg;exact hr
    · rw[jU _ _ _ _ he]at hg;exact(hk.row id x hg).ext hx hg
  · by_cases he:id=k <;> by_cases he':id'=k
    · rw[he,he']
    · subst he
      rw[jU _ _ _ _ he']at g2
      rw[o6]at m1;rw[vX he']at m2
      exact absurd m2 ((ho b m1).2 _ _ g2)
    · subst he'
      rw[jU _ _ _ _ he]at g1
      rw[o6]at m2;rw[vX he]at m1
      exact absurd m1 ((ho b m2).2 _ _ g1)
    · rw[jU _ _ _ _ he]at g1;rw[jU _ _ _ _ he']at g2
      rw[vX he]at m1;rw[vX he']at m2
      exact hk.inj _ _ _ _ _ g1 g2 m1 m2
  · by_cases he:id=k
    · subst he;rw[get_set_same]at hg;injection hg with hg;subst hg
      refine⟨hrw,λb hb=> ?_⟩
      rw[o6]at hb
      exact(ho b hb).1
    · rw[jU _ _ _ _ he]at hg;rw[hg]at hn;cases hn
def Ob(H:Array Obj)(F:Nat→Prop)(f:AV→Nat×Heap→Option (AV×Nat×Heap)):Prop:=
  ∀ t u bs k h M y k' h',TR H (VC H F) (VR H F h M) t u bs→aQ H F h M→bs.Nodup→(∀ b ∈ bs,¬ F b)→(∀ b ∈ bs,∀ id x,h.get id=some x→M id≠some b)→
    f t (k,h)=some (y,k',h')-> ∃ M',rW H F bs h M h' M'/\VR H F h' M' y u
theorem Ll{H:Array Obj}{F:Nat→Prop}{f:AV→Nat×Heap→Option (AV×Nat×Heap)}(hf:Ob H F f): ∀ xs us bs k h M ys k' h',dO H (VC H F) (VR H F h M) xs us bs→aQ H F h M→bs.Nodup→
    (∀ b ∈ bs,¬ F b)->(∀ b ∈ bs,∀ id x,h.get id=some x->M id≠some b)->fE f xs (k,h)=some (ys,k',h')->
    ∃ M',rW H F bs h M h' M'/\ys.length=us.length/\ ∀ (i:Nat) y u,ys[i]? =some y->us[i]? =some u->VR H F h' M' y u
  | [],us,bs,k,h,M,ys,k',h',ht,hk,_,_,_,e=>by
    cases ht
    simp only[fE,aH,Prod.mk.injEq]at e
    obtain⟨rfl,rfl,rfl⟩:=e
    exact⟨M,⟨Ext.refl _ _,hk,λid x a b=>by rw[a]at b;cases b⟩,rfl,λi y u h=>by simp at h⟩
  | x ::xs,us,bs,k,h,M,ys,k',h',ht,hk,hnd,hF,hM,e=>by
    cases ht with
    | @cons _ _ u us b1 b2 h1 h2=>
      simp only[fE,aA,Prod.exists]at e
      obtain⟨y,k1,g1,e1,ys',k2,g2,e2,e3⟩:=e
      simp only[aH,Prod.mk.injEq]at e3
      obtain⟨rfl,rfl,rfl⟩:=e3
      obtain⟨n1,n2,n3⟩:=List.nodup_append.1 hnd
      obtain⟨M1,i1,v1⟩:=hf x u b1 k h M y k1 g1 h1 hk n1 (λb hb=>hF b (List.mem_append_left _ hb)) (λb hb=>hM b (List.mem_append_left _ hb)) e1
      have hM2: ∀ b ∈ b2,∀ id x,g1.get id=some x→M1 id≠some b:=fun b hb id z hz hq=>by
        cases hg:h.get id with
        |none=>exact n3 _ ((i1.new id z hz hg).2 b hq) _ hb rfl
        | some w=>
          rw[(i1.ext id w hg).2]at hq
          exact hM b (List.mem_append_right _ hb) id w hg hq
      obtain⟨M2,i2,hl,hv⟩:=Ll hf xs us b2 k1 g1 M1 ys' k2 g2 (h2.mono (λ_ _ h=>h) λ_ _ h=>h.ext i1.ext) i1.ok n2 (λb hb=>hF b (List.mem_append_right _ hb)) hM2 e2
      refine⟨M2,⟨i1.ext.trans i2.ext,i2.ok,λid z a b=> ?_⟩,by simp[hl],λi y' u' a b=> ?_⟩
      · cases hg:g1.get id with
        |none=>exact⟨(i2.new id z a hg).1,λc hc=>List.mem_append_right _ ((i2.new id z a hg).2 c hc)⟩
        | some w=>
          have h3:=i2.ext id w hg
          rw[a]at h3
          obtain⟨h3,h4⟩:=h3
          injection h3 with h3
          subst h3
          have h5:=i1.new id z hg b
          exact⟨h5.1,λc hc=>List.mem_append_left _ (h5.2 c (h4 ▸ hc))⟩
      · cases i with
        |zero=>simp at a b;subst a;subst b;exact v1.ext i2.ext
        |succ i=>simp at a b;exact hv i y' u' a b
theorem VR.nM{H:Array Obj}{F:Nat→Prop}{h:Heap}{M:Id→Option Nat}{xs:List AV}{u:Value}(hv:VR H F h M (.agg xs) u):
    ∃ us,u= .agg ⟨us⟩/\xs.length=us.length/\ ∀ (i:Nat) x u,xs[i]? =some x->us[i]? =some u->VR H F h M x u:=by
  cases hv with
  | c hc=>cases hc with
    |agg hl hx=>exact⟨_,rfl,hl,λi x u a b=> .c (hx i x u a b)⟩
  |agg hl hx=>exact⟨_,rfl,hl,hx⟩
theorem VR.xM{H:Array Obj}{F:Nat→Prop}{h:Heap}{M:Id→Option Nat}{xs:List AV}{u:Value}(hv:VR H F h M (.tuple xs) u):
    ∃ us,u= .tuple ⟨us⟩/\xs.length=us.length/\ ∀ (i:Nat) x u,xs[i]? =some x->us[i]? =some u->VR H F h M x u:=by
  cases hv with
  | c hc=>cases hc with
    |tuple hl hx=>exact⟨_,rfl,hl,λi x u a b=> .c (hx i x u a b)⟩
  |tuple hl hx=>exact⟨_,rfl,hl,hx⟩
theorem dO.BQ{H:Array Obj}{C R:AV→Value→Prop}: ∀ {xs:List AV} {us:List Value},xs.length=us.length→(∀ (i:Nat) x u,xs[i]? =some x→us[i]? =some u→R x u)→dO H C R xs us []
  |[],[],_,_=> .nil
  | x::xs,u::us,hl,h=>by
    have h1:=dO.cons (H:=H) (C:=C) (.base (h 0 x u rfl rfl)) (dO.BQ (by simpa using hl) λi x u a b=>h (i+1) x u (by simpa using a) (by simpa using b))
    exact h1
theorem TR.nM{H:Array Obj}{F:Nat→Prop}{h:Heap}{M:Id→Option Nat}{xs:List AV}{u:Value}{bs:List Nat}(ht:TR H (VC H F) (VR H F h M) (.agg xs) u bs):
    ∃ us,u= .agg ⟨us⟩/\dO H (VC H F) (VR H F h M) xs us bs:=by
  cases ht with
  |base hr=>obtain⟨us,rfl,hl,hx⟩:=hr.nM;exact⟨us,rfl,dO.BQ hl hx⟩
  |agg hx=>exact⟨_,rfl,hx⟩
theorem TR.xM{H:Array Obj}{F:Nat→Prop}{h:Heap}{M:Id→Option Nat}{xs:List AV}{u:Value}{bs:List Nat}(ht:TR H (VC H F) (VR H F h M) (.tuple xs) u bs):
    ∃ us,u= .tuple ⟨us⟩/\dO H (VC H F) (VR H F h M) xs us bs:=by
  cases ht with
  |base hr=>obtain⟨us,rfl,hl,hx⟩:=hr.xM;exact⟨us,rfl,dO.BQ hl hx⟩
  |tuple hx=>exact⟨_,rfl,hx⟩
theorem aaz{H:Array Obj}{F:Nat→Prop}{h:Heap}{M:Id→Option Nat}{t:AV}{u:Value}{bs:List Nat}(hk:aQ H F h M)(hv:VR H F h M t u):
    ∃ M',rW H F bs h M h M'/\VR H F h M' t u:=
  ⟨M,⟨Ext.refl _ _,hk,λid x a b=>by rw[a]at b;cases b⟩,hv⟩
theorem SQ{H:Array Obj}{F:Nat→Prop}{h h':Heap}{M:Id→Option Nat}{k:Id}{sz n:Nat}{xs:List AV}{u:Value}{bs:List Nat}(ht:TR H (VC H F) (VR H F h M) (.fresh sz n xs) u bs)
    (hk:aQ H F h M) (hF: ∀ b ∈ bs,¬ F b) (hM: ∀ b ∈ bs,∀ id x,h.get id=some x->M id≠some b) (e:h.new k (.sl true true sz n xs)=some h'):
    ∃ M',rW H F bs h M h' M'/\VR H F h' M' (.own k 0 n n) u:=by
  have hg:h'.get k=some (.sl true true sz n xs):=by obtain⟨_,rfl⟩:=vK e;exact get_set_same _ _ _
  cases ht with
  | base hr=>cases hr with
    |c hc=>cases hc
  | nil=>
    refine⟨kJ M k none,Et hk e rfl (λb hb=>by cases hb) ⟨by simp,.inl ⟨rfl,o6⟩⟩,?_⟩
    exact .own hg (Nat.le_refl _) (Nat.le_refl _) λ_=>⟨by simp,.inl ⟨rfl,rfl⟩⟩
  | @fresh _ _ _ b cur e' c hb hc hs hl hx=>
    refine⟨kJ M k (some b),Et hk e rfl (λb' hb'=> ?_) ⟨hl,.inr ⟨b,cur,e',o6,hb,λ_=>hF b (by simp),(λh=>by cases h),λi x h=> ?_⟩⟩,?_⟩
    · injection hb' with hb';subst hb';exact⟨by simp,hM _ (by simp)⟩
    · obtain⟨u,h1,h2⟩:=hx i x h
      exact⟨u,h1,λ_=>h2,λh=>by cases h⟩
    · refine .own hg hc (Nat.le_refl _) fun _=>⟨?_,.inr ⟨b,cur.size,o6,rfl,by simp[mg,hb],by simpa using hs⟩⟩
      simp only[Nat.zero_add]
      exact Nat.mul_le_mul_right _ hc
theorem aay{H:Array Obj}{F:Nat→Prop}{h h':Heap}{M:Id→Option Nat}{k:Id}{sz n:Nat}{xs:List AV}{u:Value}{bs:List Nat}(ht:TR H (VC H F) (VR H F h M) (.freshO sz n xs) u bs)
    (hk:aQ H F h M) (hF: ∀ b ∈ bs,¬ F b) (hM: ∀ b ∈ bs,∀ id x,h.get id=some x->M id≠some b) (e:h.new k (.sl false true sz n xs)=some h'):
    ∃ M',rW H F bs h M h' M'/\VR H F h' M' (.own k 0 n n) u:=by
  have hg:h'.get k=some (.sl false true sz n xs):=by obtain⟨_,rfl⟩:=vK e;exact get_set_same _ _ _
  cases ht with
  | base hr=>cases hr with
    |c hc=>cases hc
  | @open_ _ _ _ b cur e' c hb hc hs hl hx=>
    have hex:=Rw (M:=M) (o:=some b) e
    refine⟨kJ M k (some b),Et hk e rfl (λb' hb'=> ?_) ⟨hl,.inr ⟨b,cur,e',o6,hb,λ_=>hF b (by simp),(λh=>by cases h),λi x h=> ?_⟩⟩,?_⟩
    · injection hb' with hb';subst hb';exact⟨by simp,hM _ (by simp)⟩
    · obtain⟨u,h1,h2⟩:=hx i x h
      exact⟨u,h1,(λh=>by cases h),λ_=>h2.ext hex⟩
    · refine .own hg hc (Nat.le_refl _) fun _=>⟨?_,.inr ⟨b,cur.size,o6,rfl,by simp[mg,hb],by simpa using hs⟩⟩
      simp only[Nat.zero_add]
      exact Nat.mul_le_mul_right _ hc
theorem arJ{H:Array Obj}{F:Nat→Prop}{lvl slot d:Nat}(ih:Ob H F (bC lvl slot d)){h:Heap}{M:Id→Option Nat}{k:Nat}{xs:List AV}{u:Value}{bs:List Nat}{y k' h'}
    (ht:TR H (VC H F) (VR H F h M) (.newbx xs) u bs) (hk:aQ H F h M) (hnd:bs.Nodup) (hF: ∀ b ∈ bs,¬ F b) (hM: ∀ b ∈ bs,∀ id x,h.get id=some x->M id≠some b)
    (e:bC lvl slot (d+1) (.newbx xs) (k,h)=some (y,k',h')): ∃ M',rW H F bs h M h' M'/\VR H F h' M' y u:=by
  simp only[bC,aA,Prod.exists]at e
  obtain⟨ys,k1,h1,e1,h2,e2,e3⟩:=e
  simp only[aH,Prod.mk.injEq]at e3
  obtain⟨rfl,rfl,rfl⟩:=e3
  cases ht with
  | base hr=>cases hr with
    |c hc=>cases hc
  | @newbx _ us b et bs' hb hx=>
    obtain⟨hn1,hn2⟩:=List.nodup_cons.1 hnd
    obtain⟨M1,i1,hl,hv⟩:=Ll ih xs us bs' k h M ys k1 h1 hx hk hn2 (λb hb=>hF b (by simp[hb])) (λb hb=>hM b (by simp[hb])) e1
    have hg:h2.get (lvl,slot,k1)=some (.bx true ys):=by obtain⟨_,rfl⟩:=vK e2;exact get_set_same _ _ _
    have hb1: ∀ id z,h1.get id=some z→M1 id≠some b:=fun id z hz hq=>by
      cases hg:h.get id with
      |none=>exact hn1 ((i1.new id z hz hg).2 b hq)
      | some w=>
        rw[(i1.ext id w hg).2]at hq
        exact hM b (by simp) id w hg hq
    have hex:=Rw (M:=M1) (o:=some b) e2
    have i2:rW H F (b::bs') h1 M1 h2 (kJ M1 (lvl,slot,k1) (some b)):=Et i1.ok e2 rfl (fun b' hb'=>by injection hb' with hb';subst hb';exact⟨by simp,hb1⟩)
      ⟨b,⟨us⟩,et,o6,hb,hl,λ_=>hF b (by simp),(λh=>by cases h),λi x h=>(oK hl hv h).imp λu h34=>⟨by simpa using h34.1,h34.2.ext hex⟩⟩
    refine⟨_,⟨i1.ext.trans i2.ext,i2.ok,λid z a b'=> ?_⟩,.ptr hg (Nat.le_refl _) λ_=>⟨b,o6,rfl⟩⟩
    cases hg:h1.get id with
    |none=>exact i2.new id z a hg
    | some w=>
      have h3:=i2.ext id w hg
      rw[a]at h3
      obtain⟨h3,h4⟩:=h3
      injection h3 with h3
      subst h3
      have h5:=i1.new id z hg b'
      exact⟨h5.1,λc hc=>List.mem_cons_of_mem _ (h5.2 c (h4 ▸ hc))⟩
theorem TR.VS{H:Array Obj}{C R:AV→Value→Prop}{t:AV}{u:Value}{bs:List Nat}(ht:TR H C R t u bs)
    (h:match t with| .fresh _ _ _=>False| .freshO _ _ _=>False| .newbx _=>False| .agg _=>False| .tuple _=>False|_=>True):R t u:=by
  cases ht with
  |base hr=>exact hr
  |nil=>exact h.elim
  |fresh=>exact h.elim
  |open_=>exact h.elim
  |newbx=>exact h.elim
  |agg=>exact h.elim
  |tuple=>exact h.elim
theorem aax{H:Array Obj}{F:Nat→Prop}(lvl slot:Nat): ∀ d,Ob H F (bC lvl slot d):=by
  intro d
  induction d with
  | zero=>
    intro t u bs k h M y k' h' ht hk hnd hF hM e
    cases t with
    | fresh sz n xs=>
      simp only[bC,aA,aH,Prod.mk.injEq]at e
      obtain⟨h2,e2,rfl,rfl,rfl⟩:=e
      exact SQ ht hk hF hM e2
    | freshO sz n xs=>
      simp only[bC,aA,aH,Prod.mk.injEq]at e
      obtain⟨h2,e2,rfl,rfl,rfl⟩:=e
      exact aay ht hk hF hM e2
    |newbx xs=>simp[bC]at e
    |agg xs=>simp[bC]at e
    |tuple xs=>simp[bC]at e
    | _=>
      simp only[bC,aH,Prod.mk.injEq]at e
      obtain⟨rfl,rfl,rfl⟩:=e
      exact aaz hk (ht.VS trivial)
  | succ d ih=>
    intro t u bs k h M y k' h' ht hk hnd hF hM e
    cases t with
    | fresh sz n xs=>
      simp only[bC,aA,aH,Prod.mk.injEq]at e
      obtain⟨h2,e2,rfl,rfl,rfl⟩:=e
      exact SQ ht hk hF hM e2
    | freshO sz n xs=>
      simp only[bC,aA,aH,Prod.mk.injEq]at e
      obtain⟨h2,e2,rfl,rfl,rfl⟩:=e
      exact aay ht hk hF hM e2
    |newbx xs=>exact arJ ih ht hk hnd hF hM e
    | agg xs=>
      simp only[bC,aA,Prod.exists]at e
      obtain⟨ys,k1,h1,e1,e3⟩:=e
      simp only[aH,Prod.mk.injEq]at e3
      obtain⟨rfl,rfl,rfl⟩:=e3
      obtain⟨us,rfl,hx⟩:=ht.nM
      obtain⟨M1,i1,hl,hv⟩:=Ll ih xs us bs k h M ys k1 h1 hx hk hnd hF hM e1
      exact⟨M1,i1,.agg hl hv⟩
    | tuple xs=>
      simp only[bC,aA,Prod.exists]at e
      obtain⟨ys,k1,h1,e1,e3⟩:=e
      simp only[aH,Prod.mk.injEq]at e3
      obtain⟨rfl,rfl,rfl⟩:=e3
      obtain⟨us,rfl,hx⟩:=ht.xM
      obtain⟨M1,i1,hl,hv⟩:=Ll ih xs us bs k h M ys k1 h1 hx hk hnd hF hM e1
      exact⟨M1,i1,.tuple hl hv⟩
    | _=>
      simp only[bC,aH,Prod.mk.injEq]at e
      obtain⟨rfl,rfl,rfl⟩:=e
      exact aaz hk (ht.VS trivial)
end Go.Av
set_option linter.unusedVariables false
namespace Go.Av
def Of(h:Heap)(M:Id->Option Nat)(is:List Id)(b:Nat):Prop:= ∃ id blk,id ∈ is/\h.get id=some blk/\M id=some b
theorem VC.grow{H:Array Obj}{F F':Nat->Prop}(hF: ∀ b,F b->F' b){x:AV}{u:Value}(h:VC H F x u):VC H F' x u:=h.keep hF λ_ _=>rfl
theorem mapM_nil{α β:Type}{f:α->Option β}:([]:List α).mapM f=some []:=rfl
theorem mapM_cons{α β:Type}{f:α→Option β}{a:α}{l:List α}:(a::l).mapM f=(f a).bind fun b=>(l.mapM f).bind fun bs=>some (b::bs):=by
  rw[List.mapM_cons];rfl
theorem BJ{α β:Type}{f:α→Option β}: ∀ {l:List α} {ys:List β},l.mapM f=some ys→l.length=ys.length∧ ∀ (i:Nat) y,ys[i]? =some y→ ∃ x,l[i]? =some x∧f x=some y
  | [],ys,h=>by
    rw[mapM_nil]at h;injection h with h;subst h
    exact⟨rfl,λi y h=>by simp at h⟩
  | a::l,ys,h=>by
    rw[mapM_cons,aA]at h
    obtain⟨b,h1,h⟩:=h
    rw[aA]at h
    obtain⟨bs,h2,h⟩:=h
    injection h with h;subst h
    obtain⟨hl,hx⟩:=BJ h2
    refine⟨by simp[hl],λi y hy=> ?_⟩
    cases i with
    |zero=>simp at hy;subst hy;exact⟨a,rfl,h1⟩
    |succ i=>simp at hy;simpa using hx i y hy
theorem QZ{cells:List AV}{off n sz ext:Nat}: ∃ k m,(cut cells off n sz ext)=(cells.drop k).take m∧(k=off):=by
  unfold cut
  split
  · rename_i h
    obtain⟨rfl,_⟩:=h
    exact⟨0,cells.length,by simp,rfl⟩
  · exact⟨off,_,rfl,rfl⟩
theorem Ic{cells:List AV}{off sz ext:Nat}(hl:cells.length=ext*sz):cut cells off 0 sz ext=[]:=by
  unfold cut
  split
  · rename_i h
    obtain⟨_,rfl⟩:=h
    simp at hl
    exact hl
  · simp
theorem MV{H:Array Obj}{b:Nat}{cur:Array Value}{e:TypeId}{fz:Nat×Nat}(hb:H[b]? =some (.cells cur e fz)){cells:List AV}{R:AV→Value→Prop}
    (hx: ∀ (i:Nat) x,cells[i]? =some x→ ∃ u,cur[i]? =some u∧R x u) (k m:Nat): ∃ us:List Value,Row H b k us∧((cells.drop k).take m).length=us.length∧
      ∀ (i:Nat) x u,((cells.drop k).take m)[i]? =some x->us[i]? =some u->R x u:=by
  have hlen:cells.length≤cur.size:=by
    rcases Nat.eq_zero_or_pos cells.length with h|h
    · omega
    · obtain⟨u,h1,_⟩:=hx (cells.length - 1) _ (List.getElem?_eq_getElem ae)
      have:=(Array.getElem?_eq_some_iff.1 h1).1
      omega
  refine⟨(cur.toList.drop k).take ((cells.drop k).take m).length,⟨cur,e,fz,hb,λi u h=> ?_⟩,?_,λi x u h1 h2=> ?_⟩
  · rw[List.getElem?_take]at h
    split at h
    · rw[List.getElem?_drop]at h;simpa using h
    · cases h
  · simp only[List.length_take,List.length_drop,Array.length_toList];omega
  · rw [List.getElem?_take]at h2
    split at h2
    · rw[List.getElem?_drop]at h2
      rw[List.getElem?_take]at h1
      split at h1
      · rw[List.getElem?_drop]at h1
        obtain⟨u',h3,h4⟩:=hx _ _ h1
        rw[Array.getElem?_toList,h3]at h2
        injection h2 with h2
        subst h2
        exact h4
      · cases h1
    · cases h2
theorem zq{α β:Type}{f:α→List β}{l:List α}{b:β}{a:α}(ha:a ∈ l)(hb:b ∈ f a):b ∈ (l.map f).flatten:=
  List.mem_flatten.2 ⟨f a,List.mem_map.2 ⟨a,ha,rfl⟩,hb⟩
theorem VR.nZ{H:Array Obj}{F:Nat→Prop}{h:Heap}{M:Id→Option Nat}{id:Id}{off n ext:Nat}{u:Value}(hv:VR H F h M (.own id off n ext) u):
    ∃ a c cl rw sz e cells,u= .slice a n c/\h.get id=some (.sl cl rw sz e cells)/\n<=c/\ext<=e/\(e=ext->OwnAt H M id off n ext sz a c):=by
  cases hv with
  |c hc=>cases hc
  |own hg hn hle ho=>exact⟨_,_,_,_,_,_,_,rfl,hg,hn,hle,ho⟩
theorem VR.zH{H:Array Obj}{F:Nat→Prop}{h:Heap}{M:Id→Option Nat}{id:Id}{off ext:Nat}{u:Value}(hv:VR H F h M (.ptr id off ext) u):
    ∃ blk,h.get id=some blk/\ext<=blk.ext/\(blk.ext=ext-> ∃ b,M id=some b/\u= .pointer (some ⟨b,off,none⟩)):=by
  cases hv with
  |c hc=>cases hc
  |ptr hg hle ho=>exact⟨_,hg,hle,λe=>(ho e).imp λ_ h=>⟨h.1,by rw[h.2]⟩⟩
theorem VR.acd{H:Array Obj}{F:Nat→Prop}{h:Heap}{M:Id→Option Nat}{id:Id}{off ext:Nat}{u:Value}(hv:VR H F h M (.ptr id off ext) u): ∃ a,u= .pointer a:=by
  cases hv with
  |c hc=>cases hc
  |ptr hg hle ho=>exact⟨_,rfl⟩
theorem VR.qA{H:Array Obj}{F:Nat→Prop}{h:Heap}{M:Id→Option Nat}{f:FuncId}{xs ys:List AV}{u:Value}(hv:VR H F h M (.fn f xs ys) u):
    ∃ us vs,u= .func (.func f) ⟨us⟩ ⟨vs⟩∧xs.length=us.length∧(∀ (i:Nat) x u,xs[i]? =some x→us[i]? =some u→VR H F h M x u)∧
      ys.length=vs.length/\(∀ (i:Nat) x u,ys[i]? =some x->vs[i]? =some u->VR H F h M x u):=by
  cases hv with
  | c hc=>cases hc with
    |fn h1 h2 h3 h4=>exact⟨_,_,rfl,h1,λi x u a b=> .c (h2 i x u a b),h3,λi x u a b=> .c (h4 i x u a b)⟩
  |fn h1 h2 h3 h4=>exact⟨_,_,rfl,h1,h2,h3,h4⟩
theorem VR.fJ{H:Array Obj}{F:Nat→Prop}{h:Heap}{M:Id→Option Nat}{x u:Value}(hv:VR H F h M (.v x) u):u=x:=by
  cases hv with
  |c hc=>cases hc;rfl
theorem VR.pF{H:Array Obj}{F:Nat→Prop}{h:Heap}{M:Id→Option Nat}{n:Nat}{xs:List AV}{u:Value}(hv:VR H F h M (.arr n xs) u):VC H F (.arr n xs) u:=by
  cases hv with
  |c hc=>exact hc
theorem VR.nC{H:Array Obj}{F:Nat→Prop}{h:Heap}{M:Id→Option Nat}{n:Nat}{xs:List AV}{u:Value}(hv:VR H F h M (.ay xs n) u):VC H F (.ay xs n) u:=by
  cases hv with
  |c hc=>exact hc
theorem abJ{H:Array Obj}{G:Nat→Prop}{M:Id→Option Nat}{id:Id}{off n sz e c:Nat}{a:Option Addr}{cs:List AV}
    (hr:(e=0/\M id=none)∨ ∃ b cur t,M id=some b/\H[b]? =some (.cells cur t (0,0))/\ ∀ (i:Nat) x,cs[i]? =some x-> ∃ u,cur[i]? =some u/\VC H G x u)
    (hl:cs.length=e*sz) (ho:OwnAt H M id off n e sz a c) (hn:n<=c) (hG: ∀ b,M id=some b->G b):VC H G (.arr n (cut cs off n sz e)) (.slice a n c):=by
  rcases ho.2 with⟨rfl,rfl⟩|⟨b,S,h1,rfl,h3,h4⟩
  · rw[Ic hl];exact .gB
  · rcases hr with⟨_,h0⟩|⟨b',cur,t,h6,h7,h8⟩
    · rw[h1]at h0;cases h0
    · rw[h1]at h6;injection h6 with h6;subst h6
      obtain⟨k,m,hc,rfl⟩:=QZ (cells:=cs) (off:=off) (n:=n) (sz:=sz) (ext:=e)
      rw[hc]
      obtain⟨us,hR,hU,hX⟩:=MV h7 h8 k m
      exact .arr hn (hG _ h1) hR hU hX
theorem Ru{H:Array Obj}{F:Nat→Prop}{h:Heap}{M:Id→Option Nat}(hk:aQ H F h M){id:Id}{off n ext:Nat}{u:Value}{rw:Bool}{sz e:Nat}{cells:List AV}
    (hv:VR H F h M (.own id off n ext) u) (hg:h.get id=some (.sl true rw sz e cells)) (he:e=ext) {G:Nat->Prop} (hF: ∀ b,F b->G b) (hG: ∀ b,M id=some b->G b):
    VC H G (.arr n (cut cells off n sz e)) u:=by
  obtain⟨a,c,cl,rw',sz',e',cells',rfl,hg',hn,hle,ho⟩:=hv.nZ
  rw[hg]at hg'
  injection hg' with hg'
  injection hg' with _ _ h1 h2 h3
  subst h1;subst h2;subst h3;subst he
  obtain⟨hl,hr⟩:=hk.row _ _ hg
  refine abJ ?_ hl (ho rfl) hn hG
  rcases hr with h0|⟨b,cur,t,h1,h2,_,_,h5⟩
  · exact .inl h0
  · exact .inr ⟨b,cur,t,h1,h2,λi x hx=>let ⟨u,a1,a2,_⟩:=h5 i x hx;⟨u,a1,(a2 rfl).grow hF⟩⟩
theorem yU{H:Array Obj}{F:Nat→Prop}{h:Heap}{M:Id→Option Nat}(hk:aQ H F h M): ∀ d x u y,VR H F h M x u→aG h.get d x=some y→
    VC H (λb=>F b∨Of h M (aW h.get d x) b) y u:=by
  have ownC: ∀ d id off n ext u y,VR H F h M (.own id off n ext) u→ ∀ rw sz e cells,h.get id=some (.sl true rw sz e cells)→aG h.get d (.own id off n ext)=some y→
      VC H (λb=>F b∨Of h M (aW h.get d (.own id off n ext)) b) y u:=λd id off n ext u y hv rw sz e cells hg he=>by
    have he':(if e=ext then some (AV.arr n (cut cells off n sz e))else none)=some y:=by
      cases d <;> simpa only[aG,hg,Option.bind_some]using he
    split at he'
    · rename_i hee
      simp only[aH]at he'
      subst he'
      exact Ru hk hv hg hee (λ_ h=> .inl h) λb hb=> .inr ⟨id,_,by cases d <;> simp[aW],hg,hb⟩
    · cases he'
  have vcase: ∀ d x u y,VR H F h M (.v x) u→aG h.get d (.v x)=some y→VC H (fun b=>F b∨Of h M (aW h.get d (.v x)) b) y u:=fun d x u y hv he=>by
    obtain rfl:=hv.fJ
    by_cases hx: ∃ a c,u= .slice a 0 c
    · obtain⟨a,c,rfl⟩:=hx
      simp only[aG,aH]at he
      subst he
      exact .gB
    · have:aG h.get d (.v u)=some (.v u):=by
        unfold aG
        split <;> simp_all
      rw[this]at he;injection he with he;subst he
      exact .v
  intro d
  induction d with
  | zero=>
    intro x u y hv e
    cases x with
    |v x=>exact vcase _ _ _ _ hv e
    |arr n xs=>simp only[aG,aH]at e;subst e;exact hv.pF.grow λ_ h=> .inl h
    |ay xs off=>simp only[aG,aH]at e;subst e;exact hv.nC.grow λ_ h=> .inl h
    | own id off n ext=>
      cases hg:h.get id with
      |none=>simp[aG,hg]at e
      | some b=>
        cases b with
        |bx rw cells=>simp[aG,hg]at e
        | sl cl rw sz ee cells=>
          cases cl with
          |true=>exact ownC _ _ _ _ _ _ _ hv _ _ _ _ hg e
          |false=>simp[aG,hg]at e
    | fn f a b=>
      cases a with
      |cons=>cases b <;> simp[aG]at e
      | nil=>
        cases b with
        |cons=>simp[aG]at e
        | nil=>
          simp only[aG,aH]at e
          subst e
          obtain⟨us,vs,rfl,l1,x1,l2,x2⟩:=hv.qA
          exact .fn l1 (λi x u h=>by simp at h) l2 (λi x u h=>by simp at h)
    |_=>simp[aG]at e
  | succ d ih =>
    intro x u y hv e
    have lists: ∀ {xs:List AV} {us:List Value} {ys:List AV} (G:Nat→Prop),(∀ b,F b∨Of h M ((xs.map (aW h.get d)).flatten) b→G b)→xs.length=us.length→
        (∀ (i:Nat) x u,xs[i]? =some x->us[i]? =some u->VR H F h M x u)->xs.mapM (aG h.get d)=some ys->
        ys.length=us.length/\ ∀ (i:Nat) y u,ys[i]? =some y->us[i]? =some u->VC H G y u:=λ {xs us ys} G hG hl hx he=>by
      obtain⟨h1,h2⟩:=BJ he
      refine⟨by omega,λi y u hy hu=> ?_⟩
      obtain⟨x,hx1,hx2⟩:=h2 i y hy
      exact(ih x u y (hx i x u hx1 hu) hx2).grow λb hb=>hG b (hb.imp_right λ⟨id,k,hi,hm⟩=>⟨id,k,zq (List.mem_of_getElem? hx1) hi,hm⟩)
    cases x with
    |v x=>exact vcase _ _ _ _ hv e
    |arr n xs=>simp only[aG,aH]at e;subst e;exact hv.pF.grow λ_ h=> .inl h
    |ay xs off=>simp only[aG,aH]at e;subst e;exact hv.nC.grow λ_ h=> .inl h
    | own id off n ext=>
      cases hg:h.get id with
      |none=>simp[aG,hg]at e
      | some b=>
        cases b with
        |bx rw cells=>simp[aG,hg]at e
        | sl cl rw sz ee cells=>
          cases cl with
          |true=>exact ownC _ _ _ _ _ _ _ hv _ _ _ _ hg e
          | false =>
            simp only[aG,hg,Option.bind_some]at e
            split at e
            · rename_i hee
              simp only[aA,aH]at e
              obtain⟨cs,e1,rfl⟩:=e
              subst hee
              obtain⟨a,c,cl,rw',sz',e',cells',rfl,hg',hn,hle,ho⟩:=hv.nZ
              rw[hg]at hg'
              injection hg' with hg'
              injection hg' with _ _ h1 h2 h3
              subst h1;subst h2;subst h3
              obtain⟨hl,hr⟩:=hk.row _ _ hg
              obtain⟨q1,q2⟩:=BJ e1
              refine abJ ?_ ae (ho rfl) hn λb hb=> .inr ⟨id,_,by simp[aW],hg,hb⟩
              rcases hr with h0|⟨b,cur,t,h1,h2,_,_,h5⟩
              · exact .inl h0
              · refine .inr ⟨b,cur,t,h1,h2,fun i x hx=> ?_⟩
                obtain⟨z,hz1,hz2⟩:=q2 i x hx
                obtain⟨u,a1,_,a2⟩:=h5 i z hz1
                exact⟨u,a1,(ih z u x (a2 rfl) hz2).grow fun b hb=>hb.imp_right fun⟨j,k,hj,hm⟩=>⟨j,k,by
                  simp only[aW,hg,List.mem_cons]
                  exact .inr (zq (List.mem_of_getElem? hz1) hj),hm⟩⟩
            · cases e
    | ptr id off ext=>
      cases hg:h.get id with
      |none=>simp[aG,hg]at e
      | some blk=>
        cases blk with
        |sl cl rw sz ee cells=>simp[aG,hg]at e
        | bx rw cells=>
          simp only[aG,hg,Option.bind_some]at e
          split at e
          · rename_i hee
            subst hee
            simp only[aA,aH]at e
            obtain⟨cs,e1,rfl⟩:=e
            obtain⟨blk,hg',_,ho⟩:=hv.zH
            rw[hg]at hg';injection hg' with hg';subst hg'
            obtain⟨b,hM,rfl⟩:=ho rfl
            obtain⟨b',cur,t,h1,h2,_,_,_,h5⟩:=hk.row _ _ hg
            rw[hM]at h1;injection h1 with h1;subst h1
            obtain⟨q1,q2⟩:=BJ e1
            obtain⟨us,hR,hU,hX⟩:=MV (cells:=cs) (R:=VC H (fun b=>F b∨Of h M (aW h.get (d+1) (.ptr id off 0)) b)) h2 (fun i x hx=>by
              obtain⟨z,hz1,hz2⟩:=q2 i x hx
              obtain⟨u,a1,a2⟩:=h5 i z hz1
              exact⟨u,a1,(ih z u x a2 hz2).grow fun b hb=>hb.imp_right fun⟨j,k,hj,hm⟩=>⟨j,k,by
                simp only[aW,hg,List.mem_cons]
                exact .inr (zq (List.mem_of_getElem? hz1) hj),hm⟩⟩) 0 cs.length
            simp only[List.drop_zero,List.take_length]at hU hX
            have hr:=VC.ay (off:=off) (F:=λb=>F b∨Of h M (aW h.get (d+1) (.ptr id off 0)) b) (Or.inr ⟨id,_,by simp[aW],hg,hM⟩) hR hU hX
            simpa using hr
          · cases e
    | fn f a b=>
      simp only[aG,aA,aH]at e
      obtain⟨a',e1,b',e2,rfl⟩:=e
      obtain⟨us,vs,rfl,l1,x1,l2,x2⟩:=hv.qA
      obtain⟨m1,y1⟩:=lists (λc=>F c∨Of h M (aW h.get (d+1) (.fn f a b)) c) (λc hc=>hc.imp_right λ⟨i,k,hi,hm⟩=>⟨i,k,by simp only[aW];exact List.mem_append_left _ hi,hm⟩) l1 x1 e1
      obtain⟨m2,y2⟩:=lists (λc=>F c∨Of h M (aW h.get (d+1) (.fn f a b)) c) (λc hc=>hc.imp_right λ⟨i,k,hi,hm⟩=>⟨i,k,by simp only[aW];exact List.mem_append_right _ hi,hm⟩) l2 x2 e2
      exact .fn m1 y1 m2 y2
    | agg xs=>
      simp only[aG,aA,aH]at e
      obtain⟨a',e1,rfl⟩:=e
      obtain⟨us,rfl,l1,x1⟩:=hv.nM
      obtain⟨m1,y1⟩:=lists (λc=>F c∨Of h M (aW h.get (d+1) (.agg xs)) c) (λc hc=>by simpa only[aW]using hc) l1 x1 e1
      exact .agg m1 y1
    | tuple xs=>
      simp only[aG,aA,aH]at e
      obtain⟨a',e1,rfl⟩:=e
      obtain⟨us,rfl,l1,x1⟩:=hv.xM
      obtain⟨m1,y1⟩:=lists (λc=>F c∨Of h M (aW h.get (d+1) (.tuple xs)) c) (λc hc=>by simpa only[aW]using hc) l1 x1 e1
      exact .tuple m1 y1
    |fresh sz n xs=>simp[aG]at e
    |freshO sz n xs=>simp[aG]at e
    |newbx xs=>simp[aG]at e
theorem Held.freeze{H:Array Obj}{M:Id→Option Nat}{id:Id}(b:ak):Held H H M M id b b.freeze:=by
  refine⟨λcl rw sz e cs he=> ?_,?_,λ_=>⟨rfl,λ_ _=>rfl⟩⟩
  · subst he;exact⟨_,_,_,_,rfl,Nat.le_refl _⟩
  · cases b <;> simp[ak.freeze,ak.ext]
structure o8 (h:Heap) (h':Heap):Prop where
  fwd: ∀ id x,h.get id=some x->h'.get id=some x∨h'.get id=some x.freeze
  bwd: ∀ id y,h'.get id=some y-> ∃ x,h.get id=some x/\(y=x∨y=x.freeze)
theorem aae(b:ak):b.freeze.freeze=b.freeze:=by cases b <;> rfl
theorem o8.refl(h:Heap):o8 h h:=⟨λ_ _ e=> .inl e,λ_ y e=>⟨y,e,.inl rfl⟩⟩
theorem o8.trans{h h1 h2:Heap}(a:o8 h h1)(b:o8 h1 h2):o8 h h2:=by
  refine⟨λid x e=> ?_,λid y e=> ?_⟩
  · rcases a.fwd id x e with e1|e1
    · exact b.fwd id x e1
    · rcases b.fwd id _ e1 with e2|e2
      · exact .inr e2
      · exact .inr (by rw[aae]at e2;exact e2)
  · obtain⟨x,e1,h1⟩:=b.bwd id y e
    obtain⟨z,e2,h2⟩:=a.bwd id x e1
    refine⟨z,e2,?_⟩
    rcases h1 with rfl|rfl <;> rcases h2 with rfl|rfl <;> simp[aae]
theorem o8.held{H:Array Obj}{h h':Heap}{M:Id→Option Nat}(a:o8 h h'): ∀ id x,h.get id=some x→ ∃ y,h'.get id=some y∧Held H H M M id x y:=fun id x e=>by
  rcases a.fwd id x e with e1|e1
  · exact⟨x,e1,Held.refl rfl λ_ _=>rfl⟩
  · exact⟨_,e1,Held.freeze x⟩
theorem aQ.aoT{H:Array Obj}{F:Nat→Prop}{h:Heap}{M:Id→Option Nat}(hk:aQ H F h M){k:Id}{b:ak}(hb:h.get k=some b):
    aQ H (λc=>F c∨M k=some c) (h.set k b.freeze) M/\o8 h (h.set k b.freeze):=by
  have hfr:o8 h (h.set k b.freeze):=by
    refine⟨λid x e=> ?_,λid y e=> ?_⟩
    · rw[En]
      by_cases he:id=k
      · subst he;rw[hb]at e;injection e with e;subst e;exact .inr (by simp)
      · exact .inl (by simp[he,e])
    · rw[En]at e
      by_cases he:id=k
      · subst he;simp at e;exact⟨b,hb,.inr e.symm⟩
      · simp[he]at e;exact⟨y,e,.inl rfl⟩
  refine⟨⟨λid x hg=> ?_,λid id' x x' c g1 g2 m1 m2=> ?_,λc hc=> ?_⟩,hfr⟩
  · obtain ⟨x0,hx0,hor⟩:=hfr.bwd id x hg
    have hr:=hk.row id x0 hx0
    by_cases he:id=k
    · subst he
      rw[get_set_same]at hg
      injection hg with hg
      subst hg
      rw[hb]at hx0;injection hx0 with hx0;subst hx0
      cases b with
      | sl cl rw sz e cells=>
        obtain⟨hl,hr⟩:=hr
        refine⟨hl,?_⟩
        rcases hr with h0|⟨b,cur,t,h1,h2,h3,h4,h5⟩
        · exact .inl h0
        · exact .inr ⟨b,cur,t,h1,h2,(fun h=>by cases h),fun _=> .inr h1,fun i x hx=>let ⟨u,a1,a2,a3⟩:=h5 i x hx;
            ⟨u,a1,λe=>(a2 e).grow λ_ h=> .inl h,λe=>(a3 e).keep (λ_ h=> .inl h) (λ_ _=>rfl) hfr.held⟩⟩
      | bx rw cells=>
        obtain⟨b,cur,t,h1,h2,hl,h3,h4,h5⟩:=hr
        exact⟨b,cur,t,h1,h2,hl,(fun h=>by cases h),fun _=> .inr h1,fun i x hx=>let ⟨u,a1,a2⟩:=h5 i x hx;
          ⟨u,a1,a2.keep (λ_ h=> .inl h) (λ_ _=>rfl) hfr.held⟩⟩
    · rw[jU _ _ _ _ he]at hg
      rw[hg]at hx0;injection hx0 with hx0;subst hx0
      refine hr.keep (λ_ h=> .inl h) (λ_ _=>rfl) hfr.held rfl λc hc=>⟨rfl,λ_ h=> ?_⟩
      rcases h with h|h
      · exact h
      · exact absurd (hk.inj _ _ _ _ _ hg hb hc h) he
  · obtain⟨x0,hx0,_⟩:=hfr.bwd _ _ g1
    obtain⟨x1,hx1,_⟩:=hfr.bwd _ _ g2
    exact hk.inj _ _ _ _ _ hx0 hx1 m1 m2
  · rcases hc with hc|hc
    · exact hk.fb c hc
    · have hr:=hk.row k b hb
      cases b with
      | sl cl rw sz e cells=>
        obtain⟨_,hr⟩:=hr
        rcases hr with⟨_,h0⟩|⟨b,cur,t,h1,h2,_⟩
        · rw[h0]at hc;cases hc
        · rw[h1]at hc;injection hc with hc;subst hc;exact(Array.getElem?_eq_some_iff.1 h2).1
      | bx rw cells=>
        obtain⟨b,cur,t,h1,h2,_⟩:=hr
        rw[h1]at hc;injection hc with hc;subst hc;exact(Array.getElem?_eq_some_iff.1 h2).1
theorem aQ.QX{H:Array Obj}{F F':Nat→Prop}{h:Heap}{M:Id→Option Nat}(hk:aQ H F h M)(hF: ∀ b,F b ↔ F' b):aQ H F' h M:=by
  have:F=F':=funext λb=>propext (hF b)
  exact this ▸ hk
theorem ve{H:Array Obj}{M:Id→Option Nat}: ∀ (is:List Id) {F:Nat→Prop} {h:Heap},aQ H F h M→
    aQ H (λc=>F c∨Of h M is c) (dV h is) M/\o8 h (dV h is)
  |[],F,h,hk=>⟨hk.QX λb=>⟨.inl,λh=>h.elim id λ⟨i,_,hi,_⟩=>by cases hi⟩,o8.refl h⟩
  | i :: is,F,h,hk=>by
    unfold dV
    cases hg:Heap.get h i with
    | none=>
      obtain⟨k1,f1⟩:=ve is hk
      refine⟨k1.QX λb=>⟨λh=>h.imp_right λ⟨j,y,hj,e1,e2⟩=>⟨j,y,List.mem_cons_of_mem _ hj,e1,e2⟩,λh=>h.imp_right λ⟨j,y,hj,e1,e2⟩=> ?_⟩,f1⟩
      rcases List.mem_cons.1 hj with rfl|hj
      · rw[hg]at e1;cases e1
      · exact⟨j,y,hj,e1,e2⟩
    | some b=>
      obtain⟨k0,f0⟩:=hk.aoT hg
      obtain⟨k1,f1⟩:=ve is k0
      refine⟨k1.QX λc=>⟨λh=> ?_,λh=> ?_⟩,f0.trans f1⟩
      · rcases h with(h|h)|⟨j,y,hj,e1,e2⟩
        · exact .inl h
        · exact .inr ⟨i,b,by simp,hg,h⟩
        · obtain⟨x,hx,_⟩:=f0.bwd _ _ e1
          exact .inr ⟨j,x,List.mem_cons_of_mem _ hj,hx,e2⟩
      · rcases h with h|⟨j,y,hj,e1,e2⟩
        · exact .inl (.inl h)
        · rcases List.mem_cons.1 hj with rfl|hj
          · exact .inl (.inr e2)
          · obtain⟨z,hz,_⟩:=f0.held (H:=H) (M:=M) _ _ e1
            exact .inr ⟨j,z,hj,hz,e2⟩
end Go.Av
set_option linter.unusedVariables false
namespace Go.Av
structure xY (H:Array Obj) (F:Nat→Prop) (h:Heap) (M:Id→Option Nat) (us us':List Id) (bs:List Nat):Prop where
  nodup:bs.Nodup
  own: ∀ b ∈ bs,∃ id blk,id ∈ us'/\id ∉ us/\h.get id=some blk/\blk.rw=true/\M id=some b
  sub: ∀ i ∈ us,i ∈ us'
def U9(H:Array Obj)(F:Nat→Prop)(h:Heap)(M:Id→Option Nat)(f:AV→List Id→Option (AV×List Id)):Prop:=
  ∀ x us y us' u,VR H F h M x u->f x us=some (y,us')-> ∃ bs,TR H (VC H F) (VC H F) y u bs/\xY H F h M us us' bs
theorem xY.nil{H:Array Obj}{F:Nat->Prop}{h:Heap}{M:Id->Option Nat}{us:List Id}:xY H F h M us us []:=⟨List.nodup_nil,(λ_ h=>by cases h),λ_ h=>h⟩
theorem Eb{H:Array Obj}{F:Nat→Prop}{h:Heap}{M:Id→Option Nat}(hk:aQ H F h M){f:AV→List Id→Option (AV×List Id)}(hf:U9 H F h M f):
    ∀ xs us ys us' vs,xs.length=vs.length→(∀ (i:Nat) x u,xs[i]? =some x→vs[i]? =some u→VR H F h M x u)→fE f xs us=some (ys,us')→
      ∃ bs,dO H (VC H F) (VC H F) ys vs bs/\xY H F h M us us' bs
  | [],us,ys,us',vs,hl,hx,e=>by
    simp only[fE,aH,Prod.mk.injEq]at e
    obtain⟨rfl,rfl⟩:=e
    obtain rfl:vs=[]:=List.eq_nil_of_length_eq_zero (by simpa using hl.symm)
    exact⟨[],.nil,.nil⟩
  | x ::xs,us,ys,us',vs,hl,hx,e=>by
    cases vs with
    |nil=>simp at hl
    | cons v vs=>
      simp only[fE,aA,Prod.exists]at e
      obtain⟨y,u1,e1,ys',u2,e2,e3⟩:=e
      simp only[aH,Prod.mk.injEq]at e3
      obtain⟨rfl,rfl⟩:=e3
      obtain⟨b1,t1,k1⟩:=hf x us y u1 v (hx 0 x v rfl rfl) e1
      obtain⟨b2,t2,k2⟩:=Eb hk hf xs u1 ys' u2 vs (by simpa using hl) (λi x u a b=>hx (i+1) x u (by simpa using a) (by simpa using b)) e2
      refine⟨b1++b2,.cons t1 t2,List.nodup_append.2 ⟨k1.nodup,k2.nodup,λa ha b hb hab=> ?_⟩,λb hb=> ?_,λi hi=>k2.sub i (k1.sub i hi)⟩
      · subst hab
        obtain⟨i,x1,q1,_,q2,_,q3⟩:=k1.own a ha
        obtain⟨j,x2,_,p2,p3,_,p4⟩:=k2.own a hb
        obtain rfl:=hk.inj _ _ _ _ _ q2 p3 q3 p4
        exact p2 q1
      · rcases List.mem_append.1 hb with hb|hb
        · obtain⟨i,x,q1,q2,q3⟩:=k1.own b hb
          exact⟨i,x,k2.sub i q1,q2,q3⟩
        · obtain⟨i,x,q1,q2,q3⟩:=k2.own b hb
          exact⟨i,x,q1,λh=>q2 (k1.sub i h),q3⟩
theorem abg{us:List Id}{id:Id}(h:us.contains id=false):id ∉ us:=fun hm=>by
  rw[List.contains_iff_mem.2 hm]at h;cases h
theorem ZV{H:Array Obj}{F:Nat→Prop}{h:Heap}{M:Id→Option Nat}(hk:aQ H F h M){id:Id}{off n ext:Nat}{u:Value}{sz e:Nat}{cells:List AV}{us:List Id}
    (hv:VR H F h M (.own id off n ext) u) (hg:h.get id=some (.sl true true sz e cells)) (hc:e=ext/\off=0/\n<=e/\us.contains id=false):
    ∃ bs,TR H (VC H F) (VC H F) (.fresh sz n (cut cells off n sz e)) u bs/\xY H F h M us (id::us) bs:=by
  obtain⟨rfl,rfl,hne,hus⟩:=hc
  obtain⟨a,c,cl,rw',sz',e',cells',rfl,hg',hn,hle,ho⟩:=hv.nZ
  rw[hg]at hg'
  injection hg' with hg'
  injection hg' with _ _ h1 h2 h3
  subst h1;subst h2;subst h3
  obtain⟨hl,hr⟩:=hk.row _ _ hg
  rcases(ho rfl).2 with⟨rfl,rfl⟩|⟨b,S,h1,rfl,h3,h4⟩
  · rw[Ic hl]
    exact⟨[],.nil,List.nodup_nil,(λ_ h=>by cases h),λ_ h=>List.mem_cons_of_mem _ h⟩
  · rcases hr with⟨_,h0⟩|⟨b',cur,t,h6,h7,_,_,h8⟩
    · rw[h1]at h0;cases h0
    · rw [h1]at h6;injection h6 with h6;subst h6
      refine⟨[b],.fresh h7 hn ?_ ?_ λi x hx=> ?_,by simp,λc hc=> ?_,λ_ h=>List.mem_cons_of_mem _ h⟩
      · simp only[mg,h7,aH]at h3;omega
      · unfold cut
        split
        · rename_i hh;obtain⟨_,rfl⟩:=hh;exact hl
        · simp only[List.drop_zero,List.length_take]
          have:=Nat.mul_le_mul_right sz hne
          omega
      · have:cells[i]? =some x:=by
          unfold cut at hx
          split at hx
          · exact hx
          · rw[List.drop_zero,List.getElem?_take]at hx
            split at hx
            · exact hx
            · cases hx
        obtain⟨u,a1,a2,_⟩:=h8 i x this
        exact⟨u,a1,a2 rfl⟩
      · obtain rfl:c=b:=by simpa using hc
        exact⟨id,_,by simp,abg hus,hg,rfl,h1⟩
theorem ZW{H:Array Obj}{F:Nat→Prop}{h:Heap}{M:Id→Option Nat}(hk:aQ H F h M){id:Id}{off n ext:Nat}{u:Value}{sz e:Nat}{cells:List AV}
    (hv:VR H F h M (.own id off n ext) u) (hg:h.get id=some (.sl true false sz e cells)) (he:e=ext):VC H F (.arr n (cut cells off n sz e)) u:=by
  refine Ru hk hv hg he (λ_ h=>h) λb hb=> ?_
  rcases(hk.row _ _ hg).2 with⟨_,h0⟩|⟨b',_,_,h1,_,_,h2,_⟩
  · rw[hb]at h0;cases h0
  · rw[hb]at h1;injection h1 with h1;subst h1;exact h2 rfl
theorem abk{H:Array Obj}{F:Nat→Prop}{h:Heap}{M:Id→Option Nat}(hk:aQ H F h M){is:List Id}(hf:is.all (qY h.get)=true): ∀ b,Of h M is b→F b:=by
  rintro b ⟨id,blk,hi,hg,hm⟩
  have h1:=List.all_eq_true.1 hf id hi
  simp only[qY,hg]at h1
  have hr:=hk.row _ _ hg
  cases blk with
  | sl cl rw sz e cells=>
    simp[ak.rw]at h1
    subst h1
    rcases hr.2 with⟨_,h0⟩|⟨b',_,_,h1,_,_,h2,_⟩
    · rw[hm]at h0;cases h0
    · rw[hm]at h1;injection h1 with h1;subst h1;exact h2 rfl
  | bx rw cells=>
    simp[ak.rw]at h1
    subst h1
    obtain⟨b',_,_,h1,_,_,_,h2,_⟩:=hr
    rw[hm]at h1;injection h1 with h1;subst h1;exact h2 rfl
theorem amR{H:Array Obj}{F:Nat→Prop}{h:Heap}{M:Id→Option Nat}(hk:aQ H F h M): ∀ d,U9 H F h M (fQ h.get d):=by
  have plain: ∀ {x y:AV} {us us':List Id} {u:Value},VC H F x u→some (x,us)=some (y,us')→ ∃ bs,TR H (VC H F) (VC H F) y u bs∧xY H F h M us us' bs:=fun hv e=>by
    simp only[aH,Prod.mk.injEq]at e
    obtain⟨rfl,rfl⟩:=e
    exact⟨[],.base hv,.nil⟩
  intro d
  induction d with
  | zero=>
    intro x us y us' u hv e
    cases x with
    |v x=>obtain rfl:=hv.fJ;exact plain .v (by simpa only[fQ]using e)
    |arr n xs=>exact plain hv.pF (by simpa only[fQ]using e)
    |ay xs off=>exact plain hv.nC (by simpa only[fQ]using e)
    | fn f a b=>
      cases a with
      |cons=>cases b <;> simp[fQ]at e
      | nil=>cases b with
        |cons=>simp[fQ]at e
        | nil=>
          obtain⟨us1,vs1,rfl,l1,x1,l2,x2⟩:=hv.qA
          exact plain (.fn l1 (λi x u h=>by simp at h) l2 (λi x u h=>by simp at h)) (by simpa only[fQ]using e)
    | own id off n ext=>
      simp only[fQ,aA]at e
      obtain⟨blk,hg,e⟩:=e
      split at e
      · split at e
        · rename_i hc
          simp only[aH,Prod.mk.injEq]at e
          obtain⟨rfl,rfl⟩:=e
          exact ZV hk hv hg hc
        · cases e
      · split at e
        · rename_i hc
          exact plain (ZW hk hv hg hc) e
        · cases e
      · cases e
    |_=>simp[fQ]at e
  | succ d ih =>
    intro x us y us' u hv e
    cases x with
    |v x=>obtain rfl:=hv.fJ;exact plain .v (by simpa only[fQ]using e)
    |arr n xs=>exact plain hv.pF (by simpa only[fQ]using e)
    |ay xs off=>exact plain hv.nC (by simpa only[fQ]using e)
    | fn f a b=>
      have hcap:((if(aW h.get (d+1) (.fn f a b)).all (qY h.get)=true then(aG h.get (d+1) (.fn f a b)).bind fun y=>some (y,us)else none)=some (y,us'))→ ∃ bs,TR H (VC H F) (VC H F) y u bs∧xY H F h M us us' bs:=by
        intro e
        split at e
        · rename_i hall
          simp only[aA]at e
          obtain⟨cs,e1,e2⟩:=e
          have h1:=yU hk (d+1) (.fn f a b) u cs hv e1
          exact plain (h1.grow λb hb=>hb.elim (λh=>h) λhb=>abk hk hall b hb) e2
        · cases e
      cases a with
      |cons=>exact hcap (by simpa only[fQ]using e)
      | nil=>cases b with
        |cons=>exact hcap (by simpa only[fQ]using e)
        | nil=>
          obtain⟨us1,vs1,rfl,l1,x1,l2,x2⟩:=hv.qA
          exact plain (.fn l1 (λi x u h=>by simp at h) l2 (λi x u h=>by simp at h)) (by simpa only[fQ]using e)
    | own id off n ext=>
      simp only[fQ,aA]at e
      obtain⟨blk,hg,e⟩:=e
      split at e
      · split at e
        · rename_i hc
          simp only[aH,Prod.mk.injEq]at e
          obtain⟨rfl,rfl⟩:=e
          exact ZV hk hv hg hc
        · cases e
      · split at e
        · rename_i hc
          exact plain (ZW hk hv hg hc) e
        · cases e
      · rename_i sz ee cells
        split at e
        · rename_i hc
          obtain⟨hee,hall⟩:=hc
          simp only[aA]at e
          obtain⟨cs,e1,e2⟩:=e
          have h1:=yU hk (d+1) (.own id off n ext) u (.arr n (cut cs off n sz ee)) hv (by simp[aG,hg,hee,e1])
          refine plain (h1.grow λb hb=>hb.elim (λh=>h) λhb=>abk hk (is:=aW h.get (d+1) (.own id off n ext)) ?_ b hb) e2
          simp only[aW,hg,List.all_cons,hall,Bool.and_true]
          simp[qY,hg,ak.rw]
        · cases e
      · cases e
    | ptr id off ext=>
      simp only[fQ]at e
      split at e
      · rename_i hc
        obtain⟨rfl,rfl,hus⟩:=hc
        simp only[aA]at e
        obtain⟨blk,hg,e⟩:=e
        split at e
        · rename_i cells
          simp only[aA,Prod.exists,aH,Prod.mk.injEq]at e
          obtain⟨xs,u1,e1,rfl,rfl⟩:=e
          obtain⟨blk,hg',_,ho⟩:=hv.zH
          rw[hg]at hg';injection hg' with hg';subst hg'
          obtain⟨b,hM,rfl⟩:=ho rfl
          obtain⟨b',cur,t,h1,h2,hl,_,_,h5⟩:=hk.row _ _ hg
          rw[hM]at h1;injection h1 with h1;subst h1
          obtain⟨bs,t1,k1⟩:=Eb hk ih cells (id::us) xs u1 cur.toList (by simpa using hl) (fun i x u hx hu=>by
            obtain⟨u',a1,a2⟩:=h5 i x hx
            rw[Array.getElem?_toList,a1]at hu
            injection hu with hu;subst hu;exact a2) e1
          refine⟨b::bs,.newbx (e:=t) (by simpa using h2) t1,List.nodup_cons.2 ⟨λhb=> ?_,k1.nodup⟩,λc hc=> ?_,λi hi=>k1.sub i (List.mem_cons_of_mem _ hi)⟩
          · obtain⟨j,z,q1,q2,q3,_,q4⟩:=k1.own b hb
            obtain rfl:=hk.inj _ _ _ _ _ hg q3 hM q4
            exact q2 (by simp)
          · rcases List.mem_cons.1 hc with rfl|hc
            · exact⟨id,_,k1.sub id (by simp),abg hus,hg,rfl,hM⟩
            · obtain⟨j,z,q1,q2,q3⟩:=k1.own c hc
              exact⟨j,z,q1,λh=>q2 (List.mem_cons_of_mem _ h),q3⟩
        · cases e
      · cases e
    | agg xs=>
      simp only[fQ,aA,Prod.exists,aH,Prod.mk.injEq]at e
      obtain⟨ys,u1,e1,rfl,rfl⟩:=e
      obtain⟨us1,rfl,l1,x1⟩:=hv.nM
      obtain⟨bs,t1,k1⟩:=Eb hk ih xs us ys u1 us1 l1 x1 e1
      exact⟨bs,.agg t1,k1⟩
    | tuple xs=>
      simp only[fQ,aA,Prod.exists,aH,Prod.mk.injEq]at e
      obtain⟨ys,u1,e1,rfl,rfl⟩:=e
      obtain⟨us1,rfl,l1,x1⟩:=hv.xM
      obtain⟨bs,t1,k1⟩:=Eb hk ih xs us ys u1 us1 l1 x1 e1
      exact⟨bs,.tuple t1,k1⟩
    |fresh sz n xs=>simp[fQ]at e
    |freshO sz n xs=>simp[fQ]at e
    |newbx xs=>simp[fQ]at e
theorem L9{H:Array Obj}{C:AV→Value→Prop}(hC: ∀ x u,C (.v x) u→u=x): ∀ {xs:List AV} {us:List Value} {bs:List Nat} (ss:List Nat),dO H C C xs us bs→dO H C C (fO xs ss) us bs
  | [],us,bs,ss,h=>by
    have:fO [] ss=[]:=by cases ss <;> rfl
    rw[this];exact h
  | x::xs,us,bs,[],h=>by
    have:fO (x::xs) []=x::xs:=by unfold fO;split <;> simp_all
    rw[this];exact h
  | x ::xs,us,bs,s::ss,h=>by
    cases h with
    | @cons _ _ u us b1 b2 h1 h2=>
      have ih:=L9 hC ss h2
      by_cases hx:x= .v (.slice none 0 0)/\ ∃ k,s=k+1
      · obtain⟨rfl,k,rfl⟩:=hx
        have:fO (AV.v (.slice none 0 0)::xs) ((k+1)::ss)= .fresh k 0 []::fO xs ss:=by simp only[fO]
        rw[this]
        cases h1 with
        |base hr=>obtain rfl:=hC _ _ hr;exact .cons .nil ih
      · have:fO (x::xs) (s::ss)=x::fO xs ss:=by
          rw[fO]
          intro c e1 e2
          exact hx ⟨e1,c,e2⟩
        rw[this]
        exact .cons h1 ih
theorem dO.single{H:Array Obj}{C R:AV→Value→Prop}{x:AV}{u:Value}{bs:List Nat}(h:dO H C R [x] [u] bs):TR H C R x u bs:=by
  generalize hxs:[x]=xs at h
  generalize hus:[u]=us at h
  cases h with
  |nil=>cases hxs
  | cons h1 h2=>
    injection hxs with e1 e2
    injection hus with e3 e4
    subst e1;subst e2;subst e3;subst e4
    generalize hn:([]:List AV)=zs at h2
    cases h2 with
    |nil=>simpa using h1
theorem aAu{P:Program}{H:Array Obj}{F:Nat→Prop}{t:TypeId}{x:AV}{u:Value}{bs:List Nat}(h:TR H (VC H F) (VC H F) x u bs):TR H (VC H F) (VC H F) (typed P t x) u bs:=by
  have hC: ∀ x u,VC H F (.v x) u->u=x:=λx u h=>by cases h;rfl
  have single: ∀ {x:AV},TR H (VC H F) (VC H F) x u bs→TR H (VC H F) (VC H F) (match fO [x] (mQ P 4 t)with|[y]=>y|_=>x) u bs:=fun {x} h=>by
    have h1:=L9 hC (mQ P 4 t) (dO.cons h .nil)
    split
    · rename_i y hy
      rw[hy,List.append_nil]at h1
      exact h1.single
    · exact h
  unfold typed
  split
  · rename_i xs
    cases h with
    | base hr=>cases hr with
      |agg hl hx=>exact .agg (L9 hC _ (dO.BQ hl hx))
    |agg hx=>exact .agg (L9 hC _ hx)
  · exact single h
theorem adP{P:Program}{H:Array Obj}{F:Nat→Prop}: ∀ {ts:List TypeId} {xs:List AV} {us:List Value} {bs:List Nat},dO H (VC H F) (VC H F) xs us bs→dO H (VC H F) (VC H F) (rU P ts xs) us bs
  |[],xs,us,bs,h=>by unfold rU;exact h
  |t::ts,[],us,bs,h=>by unfold rU;exact h
  | t::ts,x::xs,us,bs,h=>by
    cases h with
    |cons h1 h2=>exact .cons (aAu h1) (adP h2)
end Go.Av
set_option linter.unusedVariables false
namespace Go.Av
theorem addr_add(b o k:Nat):(⟨b,o,none⟩:Addr).add k=⟨b,o+k,none⟩:=by
  unfold Addr.add;split <;> simp_all
theorem cell_of{w:World}{b o:Nat}{cur:Array Value}{e:TypeId}{fz:Nat×Nat}(hb:w.heap[b]? =some (.cells cur e fz)):w.cell? ⟨b,o,none⟩=cur[o]? :=by
  simp[World.cell?,hb]
section
variable {P:Program} {w:World}
def DF:TypeDesc→Bool
  | .struct _=>true
  | .array _ _=>true
  |_=>false
theorem MX{t:TypeId}{d:TypeDesc}(h:P.underlying t=some d):(isAgg t).run P w= .ok (DF d) w:=by
  simp only[isAgg,Sem.run_bind,run_underlying h,Result.andThen_ok]
  cases d <;> rfl
theorem vW{t:TypeId}{tv:TV}(h:aX P t=some tv): ∃ d,P.underlying t=some d:=by
  unfold aX at h
  cases hu:P.underlying t with
  |none=>rw[hu]at h;cases h
  |some d=>exact⟨d,rfl⟩
theorem nH{t e:TypeId}{sz by_:Nat}(h:aX P t=some (.slice e sz by_)):P.underlying t=some (.slice e)∧ ∃ i,P.info? e=some i∧i.size=sz∧i.bytes=by_:=by
  obtain⟨d,hd⟩:=vW h
  unfold aX at h
  rw[hd]at h
  cases d <;> first|(simp at h;done)|skip
  rename_i e'
  simp only[Option.map_eq_some_iff]at h
  obtain⟨i,hi,h⟩:=h
  injection h with h1 h2 h3
  subst h1
  exact⟨hd,i,hi,h2,h3⟩
theorem xO{t e:TypeId}{n sz:Nat}(h:aX P t=some (.array n e sz)):P.underlying t=some (.array n e)∧ ∃ i,P.info? e=some i∧i.size=sz:=by
  obtain⟨d,hd⟩:=vW h
  unfold aX at h
  rw[hd]at h
  cases d <;> first|(simp at h;done)|skip
  rename_i n' e'
  simp only[Option.map_eq_some_iff]at h
  obtain⟨i,hi,h⟩:=h
  injection h with h1 h2 h3
  subst h1;subst h2
  exact⟨hd,i,hi,h3⟩
theorem UW{t:TypeId}(h:aX P t=some .struct): ∃ fs,P.underlying t=some (.struct fs)∧ ∀ f ∈ fs,∃ i,P.info? f.type=some i:=by
  obtain⟨d,hd⟩:=vW h
  unfold aX at h
  rw[hd]at h
  cases d <;> first|(simp at h;done)|skip
  rename_i fs
  dsimp only at h
  split at h
  · rename_i hc
    exact⟨fs,hd,λf hf=>Option.isSome_iff_exists.1 (Array.all_eq_true_iff_forall_mem.1 hc f hf)⟩
  · cases h
theorem NG{t:TypeId}(h:aX P t=some .str):P.underlying t=some .string:=by
  obtain⟨d,hd⟩:=vW h
  unfold aX at h
  rw[hd]at h
  cases d <;> first|(simp at h;done)|skip
  exact hd
theorem FO{t:TypeId}{k:IntKind}(h:aX P t=some (.int k)):P.underlying t=some (.int k):=by
  obtain⟨d,hd⟩:=vW h
  unfold aX at h
  rw[hd]at h
  cases d <;> first|(simp at h;done)|skip
  simp at h
  subst h
  exact hd
theorem UV{t:TypeId}(h:aX P t=some .bool):P.underlying t=some .bool:=by
  obtain⟨d,hd⟩:=vW h
  unfold aX at h
  rw[hd]at h
  cases d <;> first|(simp at h;done)|skip
  exact hd
def Dw(cur:Array Value)(o:Nat)(R:AV->Value->Prop)(xs:List AV):Prop:= ∀ (i:Nat) x,xs[i]? =some x-> ∃ u,cur[o+i]? =some u/\R x u
theorem Dw.piece{cur:Array Value}{o:Nat}{R:AV→Value→Prop}{xs:List AV}(h:Dw cur o R xs)(k m:Nat)(hm:k+m≤xs.length):
    ∃ us:List Value,us.length=m/\(∀ j u,us[j]? =some u->cur[o+k+j]? =some u)/\((xs.drop k).take m).length=us.length/\ ∀ (i:Nat) x u,((xs.drop k).take m)[i]? =some x->us[i]? =some u->R x u:=by
  refine⟨(List.range m).map λj=>cur.getD (o+k+j) undef,by simp,λj u hu=> ?_,by simp;omega,λi x u hx hu=> ?_⟩
  · rw[List.getElem?_map,Option.map_eq_some_iff]at hu
    obtain⟨j',h1,h2⟩:=hu
    rw[List.getElem?_eq_some_iff]at h1
    obtain⟨h3,h4⟩:=h1
    simp at h3 h4
    subst h4
    obtain⟨u',q1,_⟩:=h (k+j) _ (List.getElem?_eq_getElem ae)
    rw[← Nat.add_assoc]at q1
    rw[Array.getD_eq_getD_getElem?,q1]at h2
    simp at h2
    rw[q1,h2]
  · rw[List.getElem?_map,Option.map_eq_some_iff]at hu
    obtain⟨j',h1,h2⟩:=hu
    rw[List.getElem?_eq_some_iff]at h1
    obtain⟨h3,h4⟩:=h1
    simp at h3 h4
    subst h4
    rw[List.getElem?_take,if_pos h3,List.getElem?_drop]at hx
    obtain⟨u',q1,q2⟩:=h (k+i) x hx
    rw[← Nat.add_assoc]at q1
    rw[Array.getD_eq_getD_getElem?,q1]at h2
    simp at h2
    exact h2 ▸ q2
def sW(R:AV→Value→Prop)(y:AV)(u:Value):Prop:=
  R y u∨ ∃ ys us,y= .agg ys/\u= .agg ⟨us⟩/\ys.length=us.length/\ ∀ (i:Nat) x u,ys[i]? =some x->us[i]? =some u->R x u
theorem MZ{b o off:Nat}{cur:Array Value}{e:TypeId}{fz:Nat×Nat}(hb:w.heap[b]? =some (.cells cur e fz)){xs:List AV}{R:AV→Value→Prop}(hx:Dw cur o R xs)
    {t:TypeId} {y:AV} (hp:part P xs t off=some y): ∃ u,(loadVar t ⟨b,o+off,none⟩).run P w= .ok u w/\sW R y u:=by
  unfold part at hp
  rw[aA]at hp
  obtain⟨tv,htv,hp⟩:=hp
  obtain⟨d,hd⟩:=vW htv
  obtain⟨inf,hinf⟩:=info_of_underlying hd
  have agg: ∀ (hag:DF d=true),off+bD P t≤xs.length→y= .agg ((xs.drop off).take (bD P t))→
      ∃ u,(loadVar t ⟨b,o+off,none⟩).run P w= .ok u w/\sW R y u:=λhag hle hy=>by
    obtain⟨us,h1,h2,h3,h4⟩:=hx.piece off (bD P t) hle
    refine⟨.agg ⟨us⟩,?_,.inr ⟨_,us,hy,rfl,h3,h4⟩⟩
    have hl:=run_loadCells_list (P:=P) w ⟨b,o+off,none⟩ us λj v hv=>by rw[addr_add,cell_of hb];exact h2 j v hv
    rw[h1]at hl
    simp only[loadVar,Sem.run_bind,MX hd,hag,Result.andThen_ok,if_true,run_sizeOf w hinf]
    have:P.cellsOf t=bD P t:=rfl
    rw[this,hl]
    rfl
  have single: ∀ (hag:DF d=false),xs[off]? =some y→ ∃ u,(loadVar t ⟨b,o+off,none⟩).run P w= .ok u w∧sW R y u:=fun hag hy=>by
    obtain⟨u,h1,h2⟩:=hx off y hy
    refine⟨u,?_,.inl h2⟩
    simp only[loadVar,Sem.run_bind,MX hd,hag,Result.andThen_ok,Bool.false_eq_true,if_false]
    simp only[load,Sem.run,cell_of hb,h1]
  have hd':=htv
  cases tv with
  | struct=>
    obtain⟨fs,hu,_⟩:=UW htv
    rw[hd]at hu;injection hu with hu;subst hu
    dsimp only at hp
    split at hp
    · exact agg rfl (by assumption) (by injection hp with hp;exact hp.symm)
    · cases hp
  | array n el sz=>
    obtain⟨hu,_⟩:=xO htv
    rw[hd]at hu;injection hu with hu;subst hu
    dsimp only at hp
    split at hp
    · exact agg rfl (by assumption) (by injection hp with hp;exact hp.symm)
    · cases hp
  |slice e sz by_=>obtain⟨hu,_⟩:=nH htv;rw[hd]at hu;injection hu with hu;subst hu;exact single rfl hp
  |str=>have hu:=NG htv;rw[hd]at hu;injection hu with hu;subst hu;exact single rfl hp
  |int k=>have hu:=FO htv;rw[hd]at hu;injection hu with hu;subst hu;exact single rfl hp
  |bool=>have hu:=UV htv;rw[hd]at hu;injection hu with hu;subst hu;exact single rfl hp
  | other=>
    refine single ?_ hp
    unfold aX at htv
    rw[hd]at htv
    cases d <;> first|rfl|(simp at htv)
def tJ(P:Program)(w:World)(F:Nat→Prop)(h:Heap)(M:Id→Option Nat)(s:Sem Value)(t:AV):Prop:=
  ∃ u w' bs,s.run P w= .ok u w'/\w.grownBy w' none/\TR w'.heap (VC w'.heap F) (VR w'.heap F h M) t u bs/\bs.Nodup/\ ∀ b ∈ bs,w.heap.size<=b/\b<w'.heap.size
theorem Ep(w:World):w.grownBy w none:=⟨rfl,rfl,rfl,Nat.le_refl _,λ_ _ _=>rfl⟩
theorem Su(w:World)(o:Obj):w.grownBy (w.alloc o) none:=World.grownBy_alloc w o none
variable {F:Nat->Prop} {h:Heap} {M:Id->Option Nat}
theorem tJ.same{s:Sem Value}{t:AV}{u:Value}(hr:s.run P w= .ok u w)(hv:VR w.heap F h M t u):tJ P w F h M s t:=
  ⟨u,w,[],hr,Ep w,.base hv,List.nodup_nil,λ_ h=>by cases h⟩
theorem VR.grown{w w':World}(hk:aQ w.heap F h M)(hg:w.grownBy w' none){x:AV}{u:Value}(hv:VR w.heap F h M x u):VR w'.heap F h M x u:=by
  refine hv.keep (λ_ h=>h) (λb hb=>hg.block b (hk.fb b hb) (by simp)) λid x hx=>⟨x,hx,Held.refl rfl λb hb=> ?_⟩
  have hr:=hk.row id x hx
  refine xH (hg.block b ?_ (by simp))
  cases x with
  | sl cl rw sz e cells=>
    rcases hr.2 with⟨_,h0⟩|⟨b',cur,t,h1,h2,_⟩
    · rw[hb]at h0;cases h0
    · rw[hb]at h1;injection h1 with h1;subst h1;exact(Array.getElem?_eq_some_iff.1 h2).1
  | bx rw cells=>
    obtain⟨b',cur,t,h1,h2,_⟩:=hr
    rw[hb]at h1;injection h1 with h1;subst h1;exact(Array.getElem?_eq_some_iff.1 h2).1
theorem VC.grown{w w':World}(hk:aQ w.heap F h M)(hg:w.grownBy w' none){x:AV}{u:Value}(hv:VC w.heap F x u):VC w'.heap F x u:=
  hv.keep (λ_ h=>h) λb hb=>hg.block b (hk.fb b hb) (by simp)
theorem atJ{H:Array Obj}(x:Value):VC H F (lift x) x:=by
  unfold lift
  split
  · rename_i cs
    refine .agg (by simp) λi x u hx hu=> ?_
    rw[List.getElem?_map,hu]at hx
    simp at hx
    subst hx
    exact .v
  · exact .fn rfl (λi x u h=>by simp at h) rfl (λi x u h=>by simp at h)
  · exact .v
def fK(H:Array Obj)(F:Nat->Prop)(h:Heap)(M:Id->Option Nat)(e:Nat->Option AV)(a:Act):Prop:= ∀ k x,e k=some x->VR H F h M x (a.tmps.getD k undef)
theorem gV{H:Array Obj}{e:Nat→Option AV}{a:Act}(he:fK H F h M e a){x:Operand}{y:AV}(ho:aB e x=some y):VR H F h M y (a.eval x):=by
  cases x with
  |tmp t=>exact he t y ho
  |const v=>simp only[aB,aH]at ho;subst ho;exact .c (atJ v)
  |global g=>cases ho
  |func f=>simp only[aB,aH]at ho;subst ho;exact .fn rfl (λi x u h=>by simp at h) rfl (λi x u h=>by simp at h)
theorem MF{α β:Type}{f:α→Option β}: ∀ {l:List α} {ys:List β},aZ f l=some ys→l.length=ys.length∧ ∀ (i:Nat) y,ys[i]? =some y→ ∃ x,l[i]? =some x∧f x=some y
  |[],ys,h=>by simp only[aZ,aH]at h;subst h;exact⟨rfl,λi y h=>by simp at h⟩
  | a::l,ys,h=>by
    simp only[aZ,aA,aH]at h
    obtain⟨b,h1,bs,h2,rfl⟩:=h
    obtain⟨hl,hx⟩:=MF h2
    refine⟨by simp[hl],λi y hy=> ?_⟩
    cases i with
    |zero=>simp at hy;subst hy;exact⟨a,rfl,h1⟩
    |succ i=>simp at hy;simpa using hx i y hy
theorem zC{H:Array Obj}{e:Nat→Option AV}{a:Act}(he:fK H F h M e a){xs:List Operand}{ys:List AV}(ho:aZ (aB e) xs=some ys):
    ys.length=(xs.map a.eval).length/\ ∀ (i:Nat) y u,ys[i]? =some y->(xs.map a.eval)[i]? =some u->VR H F h M y u:=by
  obtain⟨h1,h2⟩:=MF ho
  refine⟨by simp[h1],λi y u hy hu=> ?_⟩
  obtain⟨x,hx1,hx2⟩:=h2 i y hy
  rw[List.getElem?_map,hx1]at hu
  simp at hu
  subst hu
  exact gV he hx2
theorem aQ.along(hk:aQ w.heap F h M){id:Id}{blk:ak}(hg:h.get id=some blk){b:Nat}(hb:M id=some b): ∃ cur e,w.heap[b]? =some (.cells cur e (0,0))∧Dw cur 0 (VR w.heap F h M) blk.cells:=by
  have hr:=hk.row id blk hg
  cases blk with
  | sl cl rw sz e cells=>
    rcases hr.2 with⟨_,h0⟩|⟨b',cur,t,h1,h2,_,_,h3⟩
    · rw[hb]at h0;cases h0
    · rw[hb]at h1;injection h1 with h1;subst h1
      refine⟨cur,t,h2,λi x hx=> ?_⟩
      obtain⟨u,a1,a2,a3⟩:=h3 i x hx
      refine⟨u,by simpa using a1,?_⟩
      cases cl with
      |true=>exact .c (a2 rfl)
      |false=>exact a3 rfl
  | bx rw cells=>
    obtain⟨b',cur,t,h1,h2,_,_,_,h3⟩:=hr
    rw[hb]at h1;injection h1 with h1;subst h1
    refine⟨cur,t,h2,λi x hx=> ?_⟩
    obtain⟨u,a1,a2⟩:=h3 i x hx
    exact⟨u,by simpa using a1,a2⟩
theorem sW.vr{H:Array Obj}{y:AV}{u:Value}(h1:sW (VR H F h M) y u):VR H F h M y u:=by
  rcases h1 with h1|⟨ys,us,rfl,rfl,h2,h3⟩
  · exact h1
  · exact .agg h2 h3
theorem sW.vc{H:Array Obj}{y:AV}{u:Value}(h1:sW (VC H F) y u):VC H F y u:=by
  rcases h1 with h1|⟨ys,us,rfl,rfl,h2,h3⟩
  · exact h1
  · exact .agg h2 h3
theorem VC.nC{H:Array Obj}{xs:List AV}{off:Nat}{u:Value}(hv:VC H F (.ay xs off) u):
    ∃ b o cur e fz,u= .pointer (some ⟨b,o+off,none⟩)/\F b/\H[b]? =some (.cells cur e fz)/\Dw cur o (VC H F) xs/\ ∃ us:List Value,xs.length=us.length/\Row H b o us/\ ∀ (i:Nat) x u,xs[i]? =some x->us[i]? =some u->VC H F x u:=by
  cases hv with
  | @ay _ _ b o us hF hr hl hx=>
    obtain⟨cur,e,fz,h1,h2⟩:=hr
    refine⟨b,o,cur,e,fz,rfl,hF,h1,λi x hxi=> ?_,us,hl,⟨cur,e,fz,h1,h2⟩,hx⟩
    obtain⟨u,a1,a2⟩:=oK hl hx hxi
    exact⟨u,h2 i u a1,a2⟩
theorem afa(hk:aQ w.heap F h M){x y:AV}{u:Value}{t:TypeId}(hv:VR w.heap F h M x u)(e:pz P h.get t x=some y): ∃ v,(Instr.loadAt t u).run P w= .ok v w∧VR w.heap F h M y v:=by
  unfold pz at e
  split at e
  · rename_i id off ext
    simp only[aA]at e
    obtain⟨blk,hg,e⟩:=e
    split at e
    · rename_i hext
      obtain⟨blk',hg',_,ho⟩:=hv.zH
      rw[hg]at hg';injection hg' with hg';subst hg'
      obtain⟨b,hM,rfl⟩:=ho hext
      obtain⟨cur,et,h1,h2⟩:=hk.along hg hM
      obtain⟨v,h3,h4⟩:=MZ (P:=P) (o:=0) h1 h2 e
      exact⟨v,by simpa[Instr.loadAt,Instr.sureAddr]using h3,h4.vr⟩
    · cases e
  · rename_i xs off
    obtain⟨b,o,cur,et,fz,rfl,_,h1,h2,_⟩:=hv.nC.nC
    obtain⟨v,h3,h4⟩:=MZ (P:=P) h1 h2 e
    exact⟨v,by simpa[Instr.loadAt,Instr.sureAddr]using h3,.c h4.vc⟩
  · cases e
theorem VC.Ur{H:Array Obj}{xs:List AV}{off:Nat}{u:Value}(hv:VC H F (.ay xs off) u)(k:Nat): ∃ a,u= .pointer (some a)∧VC H F (.ay xs (off+k)) (.pointer (some (a.add k))):=by
  cases hv with
  | @ay _ _ b o us hF hr hl hx=>
    refine⟨_,rfl,?_⟩
    rw[addr_add,Nat.add_assoc]
    exact .ay hF hr hl hx
theorem Uk(hk:aQ w.heap F h M){id:Id}{off ext:Nat}{u:Value}(hv:VR w.heap F h M (.ptr id off ext) u){blk:ak}(hg:h.get id=some blk)(he:blk.ext=ext)(k:Nat):
    ∃ a,u= .pointer (some a)/\VR w.heap F h M (.ptr id (off+k) ext) (.pointer (some (a.add k))):=by
  obtain⟨blk',hg',hle,ho⟩:=hv.zH
  rw[hg]at hg';injection hg' with hg';subst hg'
  obtain⟨b,hM,rfl⟩:=ho he
  exact⟨_,rfl,.ptr hg hle λ_=>⟨b,hM,by rw[addr_add]⟩⟩
theorem LQ{g:Id→Option ak}{id:Id}{ext:Nat}(hl:live g id ext=true): ∃ b,g id=some b∧b.ext=ext:=by
  unfold live at hl
  split at hl
  · rename_i b hb;exact⟨b,hb,by simpa using hl⟩
  · cases hl
theorem Rx{s:TypeId}{i o:Nat}{t:TypeId}(hf:dR P s i=some (o,t)): ∃ fs f,P.underlying s=some (.struct fs)∧fs[i]? =some f∧f.offset=o∧f.type=t:=by
  unfold dR at hf
  split at hf
  · rename_i fs hu
    rw[Option.map_eq_some_iff]at hf
    obtain⟨f,h1,h2⟩:=hf
    simp only[Prod.mk.injEq]at h2
    exact⟨fs,f,hu,h1,h2.1,h2.2⟩
  · cases hf
theorem adH{t:TypeId}(h0:bD P t≠0): ∃ i,P.info? t=some i:=by
  unfold bD Program.cellsOf at h0
  cases hi:P.info? t with
  |none=>rw[hi]at h0;simp at h0
  |some i=>exact⟨i,rfl⟩
theorem aeH(hk:aQ w.heap F h M){x y:AV}{u:Value}{s:TypeId}{i:Nat}(hv:VR w.heap F h M x u)(e:nK P s h.get x i=some y):
    ∃ v,(Instr.fieldAt s u i).run P w= .ok v w/\VR w.heap F h M y v:=by
  unfold nK at e
  simp only[aA,Prod.exists]at e
  obtain⟨o,t,hf,e⟩:=e
  obtain⟨fs,f,hu,hfs,rfl,rfl⟩:=Rx hf
  split at e
  · cases e
  · rename_i h0
    obtain⟨inf,hinf⟩:=adH h0
    have h0':P.cellsOf f.type≠0:=h0
    have run: ∀ a:Addr,(Instr.fieldAt s (.pointer (some a)) i).run P w= .ok (.pointer (some (a.add f.offset))) w:=fun a=>by
      simp[Instr.fieldAt,run_underlying hu,hfs,Instr.sureAddr,fieldPlace,run_sizeOf w hinf,h0']
    split at e
    · split at e
      · rename_i id off ext hl
        obtain⟨b,hg,hb⟩:=LQ hl
        obtain⟨a,rfl,h1⟩:=Uk hk hv hg hb f.offset
        injection e with e;subst e
        exact⟨_,run a,h1⟩
      · cases e
    · obtain⟨a,rfl,h1⟩:=hv.nC.Ur f.offset
      injection e with e;subst e
      exact⟨_,run a,.c h1⟩
    · cases e
theorem ac3{t e:TypeId}{inf:TypeInfo}(hu:P.underlying t=some (.slice e))(hi:P.info? e=some inf)(a:Addr)(n c:Nat)(k:IntKind)(i:Int)(h0:0≤i)(h1:i<n):
    (Instr.indexAt t (.slice (some a) n c) (.int k i)).run P w= .ok (.pointer (some (a.add (i.toNat*inf.size)))) w:=by
  simp[Instr.indexAt,asIntOf,run_underlying hu,h0,h1,sizeOf,typeInfo,hi]
theorem ac2{t e:TypeId}{inf:TypeInfo}{len:Nat}(hu:P.underlying t=some (.array len e))(hi:P.info? e=some inf)(a:Addr)(k:IntKind)(i:Int)(h0:0≤i)(h1:i<len):
    (Instr.indexAt t (.pointer (some a)) (.int k i)).run P w= .ok (.pointer (some (a.add (i.toNat*inf.size)))) w:=by
  simp[Instr.indexAt,Instr.sureAddr,asIntOf,run_underlying hu,h0,h1,sizeOf,typeInfo,hi]
theorem aeM(hk:aQ w.heap F h M){x y:AV}{u:Value}{t:TypeId}{k:IntKind}{i:Int}(hv:VR w.heap F h M x u)(e:oJ P t h.get x i=some y):
    ∃ v,(Instr.indexAt t u (.int k i)).run P w= .ok v w/\VR w.heap F h M y v:=by
  unfold oJ at e
  simp only[aA]at e
  obtain⟨tv,htv,e⟩:=e
  split at e
  · rename_i et sz by_ n xs
    obtain⟨hu,inf,hi,rfl,rfl⟩:=nH htv
    split at e
    · rename_i hc
      injection e with e;subst e
      have hvc:=hv.pF
      cases hvc with
      |gB=>obtain⟨h1,h2⟩:=hc;omega
      | @arr _ _ b o c us hcap hF hr hl hx=>
        refine⟨_,ac3 hu hi _ _ _ _ _ hc.1 hc.2,?_⟩
        rw[addr_add]
        exact .c (.ay hF hr hl hx)
    · cases e
  · rename_i et sz by_ id off n ext
    obtain⟨hu,inf,hi,rfl,rfl⟩:=nH htv
    simp only[aA]at e
    obtain⟨blk,hg,e⟩:=e
    split at e
    · split at e
      · rename_i hc
        obtain⟨rfl,rfl,hc1,hc2⟩:=hc
        injection e with e;subst e
        obtain⟨a,c,cl,rw',sz',e',cells',rfl,hg',hn,hle,ho⟩:=hv.nZ
        rw[hg]at hg'
        injection hg' with hg'
        injection hg' with _ _ h1 h2 h3
        subst h1;subst h2;subst h3
        rcases(ho rfl).2 with⟨rfl,_⟩|⟨b,S,h1,rfl,_⟩
        · omega
        · refine⟨_,ac3 hu hi _ _ _ _ _ hc1 hc2,?_⟩
          rw[addr_add]
          exact .ptr hg (Nat.le_refl _) λ_=>⟨b,h1,rfl⟩
      · cases e
    · cases e
  · rename_i n et sz id off ext
    obtain⟨hu,inf,hi,rfl⟩:=xO htv
    split at e
    · rename_i hc
      injection e with e;subst e
      obtain⟨b,hg,hb⟩:=LQ hc.1
      obtain⟨a,rfl,h1⟩:=Uk hk hv hg hb (i.toNat*inf.size)
      exact⟨_,ac2 hu hi a k i hc.2.1 hc.2.2,h1⟩
    · cases e
  · rename_i n et sz xs off
    obtain⟨hu,inf,hi,rfl⟩:=xO htv
    split at e
    · rename_i hc
      injection e with e;subst e
      obtain⟨a,rfl,h1⟩:=hv.nC.Ur (i.toNat*inf.size)
      exact⟨_,ac2 hu hi a k i hc.1 hc.2,.c h1⟩
    · cases e
  · cases e
theorem Cf{t:TypeId}{off:Nat}{xs:List AV}{us:List Value}{y:AV}{R:AV→Value→Prop}(hl:xs.length=us.length)(hx: ∀ (i:Nat) x u,xs[i]? =some x→us[i]? =some u→R x u)
    (hp:part P xs t off=some y): ∃ u,(Go.part t ⟨us⟩ off).run P w= .ok u w/\sW R y u:=by
  unfold part at hp
  rw[aA]at hp
  obtain⟨tv,htv,hp⟩:=hp
  obtain⟨d,hd⟩:=vW htv
  obtain⟨inf,hinf⟩:=info_of_underlying hd
  have agg: ∀ (hag:DF d=true),off+bD P t≤xs.length→y= .agg ((xs.drop off).take (bD P t))→ ∃ u,(Go.part t ⟨us⟩ off).run P w= .ok u w∧sW R y u:=fun hag hle hy=>by
    have:P.cellsOf t=bD P t:=rfl
    refine⟨.agg ⟨(us.drop off).take (bD P t)⟩,?_,.inr ⟨_,_,hy,rfl,by simp;omega,λi x u h1 h2=> ?_⟩⟩
    · simp only[Go.part,Sem.run_bind,MX hd,hag,Result.andThen_ok,if_true,run_sizeOf w hinf,this,Sem.run_pure]
      congr 3
      simp[Nat.add_sub_cancel_left]
    · rw[List.getElem?_take]at h1 h2
      by_cases hi:i<bD P t
      · rw[if_pos hi,List.getElem?_drop]at h1 h2
        exact hx _ _ _ h1 h2
      · rw[if_neg hi]at h1;cases h1
  have single: ∀ (hag:DF d=false),xs[off]? =some y→ ∃ u,(Go.part t ⟨us⟩ off).run P w= .ok u w∧sW R y u:=fun hag hy=>by
    obtain⟨u,h1,h2⟩:=oK hl hx hy
    refine⟨u,?_,.inl h2⟩
    simp only[Go.part,Sem.run_bind,MX hd,hag,Result.andThen_ok,Bool.false_eq_true,if_false]
    simp[h1]
  cases tv with
  | struct=>
    obtain⟨fs,hu,_⟩:=UW htv
    rw[hd]at hu;injection hu with hu;subst hu
    dsimp only at hp
    split at hp
    · exact agg rfl (by assumption) (by injection hp with hp;exact hp.symm)
    · cases hp
  | array n el sz=>
    obtain⟨hu,_⟩:=xO htv
    rw[hd]at hu;injection hu with hu;subst hu
    dsimp only at hp
    split at hp
    · exact agg rfl (by assumption) (by injection hp with hp;exact hp.symm)
    · cases hp
  |slice e sz by_=>obtain⟨hu,_⟩:=nH htv;rw[hd]at hu;injection hu with hu;subst hu;exact single rfl hp
  |str=>have hu:=NG htv;rw[hd]at hu;injection hu with hu;subst hu;exact single rfl hp
  |int k=>have hu:=FO htv;rw[hd]at hu;injection hu with hu;subst hu;exact single rfl hp
  |bool=>have hu:=UV htv;rw[hd]at hu;injection hu with hu;subst hu;exact single rfl hp
  | other=>
    refine single ?_ hp
    unfold aX at htv
    rw[hd]at htv
    cases d <;> first|rfl|(simp at htv)
theorem run_equal_bool{t:TypeId}(hu:P.underlying t=some .bool)(a b:Bool):(Op.equal t (.bool a) (.bool b)).run P w= .ok (a==b) w:=by
  have hd: ∀ d,(Op.equalIn (d+1) t (.bool a) (.bool b)).run P w= .ok (a==b) w:=λd=>by simp[Op.equalIn,run_underlying hu]
  exact hd 9999
theorem axY{t e:TypeId}(hu:P.underlying t=some (.slice e))(a:Option Addr)(m c m' c':Nat):(Op.equal t (.slice a m c) (.slice none m' c')).run P w= .ok a.isNone w:=by
  have hd: ∀ d,(Op.equalIn (d+1) t (.slice a m c) (.slice none m' c')).run P w= .ok a.isNone w:=λd=>by cases a <;> simp[Op.equalIn,run_underlying hu]
  exact hd 9999
theorem aba{op:BinOp}{r:AV}{t e:TypeId}{p q:Operand}(hu:P.underlying t=some (.slice e))(a:Option Addr)(m c m' c':Nat)(he:yf op a.isNone=some r):
    ∃ z,(do eqGuard op t p q (.slice a m c) (.slice none m' c');binOp op t (.slice a m c) (.slice none m' c'):Sem Value).run P w= .ok z w/\r= .v z:=by
  have heq:=axY (w:=w) hu a m c m' c'
  have hgd: ∀ op,(eqGuard op t p q (.slice a m c) (.slice none m' c')).run P w= .ok () w:=λop=>by cases op <;> simp[eqGuard]
  simp only[Sem.run_bind,hgd,Result.andThen_ok]
  cases op <;> simp only[yf,aH]at he <;> first|(cases he;done)|skip
  all_goals
    subst he
    refine⟨_,?_,rfl⟩
    simp only[binOp,Sem.run_bind,heq,Result.andThen_ok,Sem.run_pure]
theorem acY{k:Nat→Option Bool×PUnit→Sem (ForInStep (Option Bool×PUnit))}(g:Nat→Option Bool): ∀ (l:List Nat) (r:Bool),(∀ i ∈ l,∀ b,g i=some b→ ∀ s,(k i s).run P w= .ok (if b=true then .yield (none,⟨⟩)else .done (some false,⟨⟩)) w)→Ap g l=some r→
    (forIn l ((none,⟨⟩):Option Bool×PUnit) k:Sem (Option Bool×PUnit)).run P w= .ok (if r=true then(none,⟨⟩)else(some false,⟨⟩)) w
  |[],r,h,hr=>by simp only[Ap,aH]at hr;subst hr;simp
  | i ::l,r,h,hr=>by
    simp only[Ap,aA]at hr
    obtain⟨b,hb,hr⟩:=hr
    have h1:=h i (by simp) b hb
    cases b with
    | true=>
      rw[if_pos rfl]at hr
      have ih:=acY (k:=k) g l r (λj hj=>h j (by simp[hj])) hr
      simp only[List.forIn_cons,Sem.run_bind,h1,Result.andThen_ok,if_true]
      exact ih
    | false=>
      rw[if_neg au]at hr
      injection hr with hr
      subst hr
      simp only[List.forIn_cons,Sem.run_bind,h1,Result.andThen_ok]
      simp
theorem ahf{t e:TypeId}{n:Nat}{xs ys:Array Value}{sz:Nat}{inf:TypeInfo}{d:Nat}{g:Nat→Option Bool}{r:Bool}(hu:P.underlying t=some (.array n e))(hi:P.info? e=some inf)(hs:inf.size=sz)
    (hg: ∀ i,i<n-> ∀ b,g i=some b-> ∃ a c,(Go.part e xs (i*sz)).run P w= .ok a w/\(Go.part e ys (i*sz)).run P w= .ok c w/\(Op.equalIn d e a c).run P w= .ok b w) (hr:Ap g (List.range n)=some r):
    (Op.equalIn (d+1) t (.agg xs) (.agg ys)).run P w= .ok r w:=by
  unfold Op.equalIn
  simp only[Sem.run_bind,run_underlying hu,Result.andThen_ok,sizeOf,typeInfo]
  simp[hi,hs]
  rw[List.range_eq_range']at hr
  rw[acY g _ r (λi hmem b hb s=> ?_) hr]
  · cases r <;> simp
  · obtain⟨a,c,h1,h2,h3⟩:=hg i (by simpa using hmem) b hb
    simp only[Sem.run_bind,h1,h2,h3,Result.andThen_ok]
    cases b <;> simp
theorem acZ{k:Field→Option Bool×PUnit→Sem (ForInStep (Option Bool×PUnit))}(g:Field→Option Bool): ∀ (l:List Field) (r:Bool),(∀ i ∈ l,∀ b,g i=some b→ ∀ s,(k i s).run P w= .ok (if b=true then .yield (none,⟨⟩)else .done (some false,⟨⟩)) w)→Am g l=some r→
    (forIn l ((none,⟨⟩):Option Bool×PUnit) k:Sem (Option Bool×PUnit)).run P w= .ok (if r=true then(none,⟨⟩)else(some false,⟨⟩)) w
  |[],r,h,hr=>by simp only[Am,aH]at hr;subst hr;simp
  | i ::l,r,h,hr=>by
    simp only[Am,aA,aH]at hr
    obtain⟨b,hb,c,hc,hr⟩:=hr
    have h1:=h i (by simp) b hb
    cases b with
    | true=>
      have ih:=acZ (k:=k) g l c (λj hj=>h j (by simp[hj])) hc
      simp only[List.forIn_cons,Sem.run_bind,h1,Result.andThen_ok,if_true]
      simp only[Bool.true_and]at hr
      subst hr
      exact ih
    | false=>
      simp only[Bool.false_and]at hr
      subst hr
      simp only[List.forIn_cons,Sem.run_bind,h1,Result.andThen_ok]
      simp
theorem azx{t:TypeId}{fs:Array Field}{xs ys:Array Value}{d:Nat}{g:Field→Option Bool}{r:Bool}(hu:P.underlying t=some (.struct fs))(hs:P.stoodInHeld t=false)(hn:fs.toList.all (fun f=>f.name != "_")=true)
    (hg: ∀ f ∈ fs.toList,∀ b,g f=some b-> ∃ a c,(Go.part f.type xs f.offset).run P w= .ok a w/\(Go.part f.type ys f.offset).run P w= .ok c w/\(Op.equalIn d f.type a c).run P w= .ok b w) (hr:Am g fs.toList=some r):
    (Op.equalIn (d+1) t (.agg xs) (.agg ys)).run P w= .ok r w:=by
  unfold Op.equalIn
  simp only[Sem.run_bind,run_underlying hu,Result.andThen_ok]
  simp[hs]
  rw[← Array.forIn_toList,acZ g _ r (λf hmem b hb s=> ?_) hr]
  · cases r <;> simp
  · obtain⟨a,c,h1,h2,h3⟩:=hg f hmem b hb
    have hne: ¬ f.name= "_" :=by simpa using List.all_eq_true.1 hn f hmem
    simp only[hne,if_false,Sem.run_bind,h1,h2,h3,Result.andThen_ok]
    cases b <;> simp
theorem aeB: ∀ (d D:Nat),d≤D→ ∀ {t:TypeId} {x y:AV} {u v:Value} {b:Bool},VR w.heap F h M x u→VR w.heap F h M y v→Ak P d t x y=some b→(Op.equalIn D t u v).run P w= .ok b w:=by
  intro d
  induction d with
  |zero=>intro D hD t x y u v b hx hy e;simp[Ak]at e
  | succ d ih=>
    intro D hD t x y u v b hx hy e
    obtain⟨D,rfl⟩: ∃ D',D=D'+1:=⟨D - 1,by omega⟩
    simp only[Ak,aA]at e
    obtain⟨tv,htv,e⟩:=e
    split at e
    · rename_i k k1 a k2 b'
      have hu:=FO htv
      obtain rfl:=hx.fJ
      obtain rfl:=hy.fJ
      split at e
      · rename_i hk
        injection e with e
        subst e
        unfold Op.equalIn
        simp[run_underlying hu,hk]
      · cases e
    · rename_i n el sz xs ys
      obtain⟨hu,inf,hi,hs⟩:=xO htv
      obtain⟨us,rfl,hl,hx⟩:=hx.nM
      obtain⟨vs,rfl,hl2,hy⟩:=hy.nM
      refine ahf hu hi hs (λi hin b hb=> ?_) e
      simp only[aA]at hb
      obtain⟨a,ha,c,hc,hb⟩:=hb
      obtain⟨a',h1,h2⟩:=Cf (P:=P) (w:=w) hl hx ha
      obtain⟨c',h3,h4⟩:=Cf (P:=P) (w:=w) hl2 hy hc
      exact⟨a',c',h1,h3,ih D ae h2.vr h4.vr hb⟩
    · rename_i xs ys
      split at e
      · rename_i fs hu
        split at e
        · rename_i hc
          obtain⟨us,rfl,hl,hx⟩:=hx.nM
          obtain⟨vs,rfl,hl2,hy⟩:=hy.nM
          refine azx hu hc.1 hc.2 (λf hf b hb=> ?_) e
          simp only[aA]at hb
          obtain⟨a,ha,c,hc,hb⟩:=hb
          obtain⟨a',h1,h2⟩:=Cf (P:=P) (w:=w) hl hx ha
          obtain⟨c',h3,h4⟩:=Cf (P:=P) (w:=w) hl2 hy hc
          exact⟨a',c',h1,h3,ih D ae h2.vr h4.vr hb⟩
        · cases e
      · cases e
    · cases e
theorem aet {op:BinOp}{x y r:AV}{u v:Value}{t:TypeId}{p q:Operand}(hx:VR w.heap F h M x u)(hy:VR w.heap F h M y v)(e:pq P op t x y=some r):
    ∃ z,(do eqGuard op t p q u v;binOp op t u v:Sem Value).run P w= .ok z w/\r= .v z:=by
  unfold pq at e
  split at e
  · rename_i k a k' b
    unfold gW at e
    obtain rfl:=hx.fJ
    obtain rfl:=hy.fJ
    have hgd: ∀ op,(eqGuard op t p q (.int k a) (.int k' b)).run P w= .ok () w:=λop=>by cases op <;> simp[eqGuard]
    split at e
    · rename_i hsh
      simp only[aA,aH]at e
      obtain⟨r',e1,rfl⟩:=e
      refine⟨_,?_,rfl⟩
      simp only[Sem.run_bind,hgd,Result.andThen_ok]
      cases op <;> simp[BinOp.lH]at hsh <;> simp only[Nk]at e1 <;> split at e1 <;> first|(cases e1;done)|skip
      all_goals
        rename_i hb
        injection e1 with e1
        subst e1
        simp[binOp,Op.shift,hb]
    · rename_i hsh
      split at e
      · rename_i hkk
        subst hkk
        split at e
        · rename_i hcmp
          simp only[aA,aH]at e
          obtain⟨r',e1,rfl⟩:=e
          refine⟨_,?_,rfl⟩
          simp only[Sem.run_bind,hgd,Result.andThen_ok]
          cases op <;> simp[BinOp.mO]at hcmp <;> simp only[xe,aH]at e1 <;> subst e1 <;> simp[binOp,Op.intCmp]
        · rename_i hcmp
          simp only[aA,aH]at e
          obtain⟨r',e1,rfl⟩:=e
          refine⟨_,?_,rfl⟩
          simp only[Sem.run_bind,hgd,Result.andThen_ok]
          cases op <;> simp[BinOp.mO,BinOp.lH]at hcmp hsh <;> simp only[rZ,wH,aH]at e1
          all_goals first
            |(subst e1;simp[binOp,Op.intArith,Op.intBits];done)
            | (split at e1
               · cases e1
               · rename_i hb
                 injection e1 with e1
                 subst e1
                 simp[binOp,Op.intDiv,hb])
      · cases e
  · rename_i a b
    obtain rfl:=hx.fJ
    obtain rfl:=hy.fJ
    simp only[aA]at e
    obtain⟨tv,htv,e⟩:=e
    split at e
    · have hu:=UV htv
      have heq:(Op.equal t (.bool a) (.bool b)).run P w= .ok (a==b) w:=run_equal_bool hu a b
      have hgd: ∀ op,(eqGuard op t p q (.bool a) (.bool b)).run P w= .ok () w:=λop=>by cases op <;> simp[eqGuard]
      simp only[Sem.run_bind,hgd,Result.andThen_ok]
      cases op <;> simp only[Aj,aH]at e <;> first|(cases e;done)|skip
      all_goals
        subst e
        refine⟨_,?_,rfl⟩
        simp only[binOp,Sem.run_bind,heq,Result.andThen_ok,Sem.run_pure]
    · cases e
  · rename_i a m c m' c'
    obtain rfl:=hx.fJ
    obtain rfl:=hy.fJ
    simp only[aA]at e
    obtain⟨tv,htv,e⟩:=e
    split at e
    · obtain⟨hu,_⟩:=nH htv
      exact aba hu a m c m' c' e
    · cases e
  · rename_i m xs m' c'
    obtain rfl:=hy.fJ
    split at e
    · cases e
    rename_i hm
    simp only[aA]at e
    obtain⟨tv,htv,e⟩:=e
    split at e
    · obtain⟨hu,_⟩:=nH htv
      have hv:=hx.pF
      cases hv with
      |gB=>exact absurd rfl hm
      | @arr _ _ b o c us hc hF hr hl hx=>exact aba hu (some ⟨b,o,none⟩) m c m' c' e
    · cases e
  · rename_i xs ys
    split at e
    · split at e
      · rename_i hgt
        simp only[aA,aH]at e
        obtain⟨b,hb,rfl⟩:=e
        have he:=aeB (w:=w) 4 Op.maxDepth au hx hy hb
        obtain⟨us,rfl,_,_⟩:=hx.nM
        obtain⟨vs,rfl,_,_⟩:=hy.nM
        refine⟨_,?_,rfl⟩
        have hgd:(eqGuard .eql t p q (.agg ⟨us⟩) (.agg ⟨vs⟩)).run P w= .ok () w:=by simp[eqGuard,hgt]
        have heq:(Op.equal t (.agg ⟨us⟩) (.agg ⟨vs⟩)).run P w= .ok b w:=he
        simp only[Sem.run_bind,hgd,Result.andThen_ok,binOp,heq,Sem.run_pure]
      · cases e
    · cases e
  · cases e
theorem ahs{op:UnOp}{x r:AV}{u:Value}(hx:VR w.heap F h M x u)(e:yx op x=some r): ∃ z,(Op.unary op u).run P w= .ok z w∧r= .v z:=by
  unfold yx at e
  split at e
  · obtain rfl:=hx.fJ;injection e with e;exact⟨_,by simp[Op.unary],e.symm⟩
  · obtain rfl:=hx.fJ;injection e with e;exact⟨_,by simp[Op.unary,Op.intArith],e.symm⟩
  · obtain rfl:=hx.fJ
    simp only[wH,Option.bind_some,aH]at e
    exact⟨_,by simp[Op.unary,Op.intBits],e.symm⟩
  · cases e
theorem DL{H:Array Obj}{x:AV}{n:Int}{u:Value}(hx:VR H F h M x u)(e:mF x=some n): ∃ k,u= .int k n:=by
  unfold mF at e
  split at e
  · obtain rfl:=hx.fJ;injection e with e;subst e;exact⟨_,rfl⟩
  · cases e
theorem aeN{x y:AV}{u:Value}{t:TypeId}{k:IntKind}{i:Int}(hv:VR w.heap F h M x u)(e:wE P t x i=some y):
    ∃ v,(Instr.index t u (.int k i)).run P w= .ok v w/\VR w.heap F h M y v:=by
  unfold wE at e
  simp only[aA]at e
  obtain⟨tv,htv,e⟩:=e
  split at e
  · rename_i n et sz xs
    obtain⟨hu,inf,hi,rfl⟩:=xO htv
    split at e
    · rename_i hc
      obtain⟨us,rfl,hl,hx⟩:=hv.nM
      obtain⟨v,h1,h2⟩:=Cf (P:=P) (w:=w) hl hx e
      refine⟨v,?_,h2.vr⟩
      simpa[Instr.index,asIntOf,run_underlying hu,hc,sizeOf,typeInfo,hi]using h1
    · cases e
  · rename_i s
    have hu:=NG htv
    obtain rfl:=hv.fJ
    split at e
    · rename_i hc
      simp only[aA,aH]at e
      obtain⟨b,hb,rfl⟩:=e
      refine⟨_,?_,.c .v⟩
      simp[Instr.index,asIntOf,run_underlying hu,hc,hb]
    · cases e
  · cases e
end
end Go.Av
set_option linter.unusedVariables false
namespace Go.Av
theorem zI: ∀ (ys cells:List AV) (off:Nat),(putCells cells off ys).length=cells.length
  |[],cells,off=>rfl
  |y::ys,cells,off=>by unfold putCells;rw[zI ys];simp
theorem Ul: ∀ (ys cells:List AV) (off i:Nat),off+ys.length≤cells.length→(putCells cells off ys)[i]? =if off≤i∧i<off+ys.length then ys[i - off]? else cells[i]?
  | [],cells,off,i,h=>by
    unfold putCells
    rw[if_neg]
    intro hc;simp at hc;omega
  | y ::ys,cells,off,i,h=>by
    simp only[List.length_cons]at h
    unfold putCells
    rw[Ul ys (cells.set off y) (off+1) i (by simp;omega)]
    by_cases h1:i=off
    · subst h1
      rw[if_neg ae,if_pos (by simp),List.getElem?_set]
      simp
      omega
    · rw[List.getElem?_set_ne ae]
      by_cases h2:off+1<=i/\i<off+1+ys.length
      · rw[if_pos h2,if_pos (by simp;omega)]
        rw[show i - off=(i - (off+1))+1 by omega]
        simp
      · rw[if_neg h2,if_neg (by simp;omega)]
theorem Z9(off:Nat): ∀ (l:List Value) (k:Nat) (cs:Array Value),((l.zipIdx k).foldl (fun cs (c,j)=>cs.setIfInBounds (off+j) c) cs).size=cs.size∧
    ∀ i,off+k+l.length<=cs.size->((l.zipIdx k).foldl (λcs (c,j)=>cs.setIfInBounds (off+j) c) cs)[i]? =if off+k<=i/\i<off+k+l.length then l[i - (off+k)]? else cs[i]?
  |[],k,cs=>⟨rfl,λi h=>by rw[if_neg];rfl;intro hc;simp at hc;omega⟩
  | v ::l,k,cs=>by
    simp only[List.zipIdx_cons,List.foldl_cons]
    obtain⟨h1,h2⟩:=Z9 off l (k+1) (cs.setIfInBounds (off+k) v)
    refine⟨by rw[h1];simp,λi h=> ?_⟩
    simp only[List.length_cons]at h
    have hs:(cs.setIfInBounds (off+k) v).size=cs.size:=by simp
    rw[h2 i (by rw[hs];omega)]
    by_cases e1:i=off+k
    · subst e1
      rw[if_neg ae,if_pos (by simp)]
      rw[Array.getElem?_setIfInBounds_self_of_lt ae]
      simp
    · rw[Array.getElem?_setIfInBounds_ne ae]
      by_cases e2:off+(k+1)<=i/\i<off+(k+1)+l.length
      · rw[if_pos e2,if_pos (by simp;omega)]
        rw[show i - (off+k)=(i - (off+(k+1)))+1 by omega]
        simp
      · rw[if_neg e2,if_neg (by simp;omega)]
theorem anG(off:Nat)(vs cs:Array Value):(vs.zipIdx.foldl (fun cs (c,j)=>cs.setIfInBounds (off+j) c) cs).size=cs.size∧
    ∀ i,off+vs.size<=cs.size->(vs.zipIdx.foldl (λcs (c,j)=>cs.setIfInBounds (off+j) c) cs)[i]? =if off<=i/\i<off+vs.size then vs[i - off]? else cs[i]? :=by
  have:=Z9 off vs.toList 0 cs
  rw[← Array.foldl_toList,Array.toList_zipIdx]
  simpa using this
section
variable {P:Program} {w:World} {F:Nat->Prop} {h:Heap} {M:Id->Option Nat}
theorem cells_ok{H:Array Obj}{x:AV}{u:Value}(hv:VR H F h M x u)(h1:x.cells.all AV.one=true):
    x.cells.length=u.cells.size/\(∀ (i:Nat) y v,x.cells[i]? =some y->u.cells[i]? =some v->VR H F h M y v):=by
  cases x with
  | agg xs=>
    obtain⟨us,rfl,hl,hx⟩:=hv.nM
    exact⟨by simpa[AV.cells,Value.cells]using hl,λi y v a b=>hx i y v a (by simpa[Value.cells]using b)⟩
  | v y=>
    obtain rfl:=hv.fJ
    have:u.cells= #[u]:=by cases u <;> first|rfl|(simp[AV.cells,AV.one]at h1)
    rw[this]
    refine⟨rfl,λi y v a b=> ?_⟩
    cases i with
    |zero=>simp[AV.cells]at a b;subst a;subst b;exact hv
    |succ i=>simp[AV.cells]at a
  |tuple xs=>simp[AV.cells,AV.one]at h1
  |fresh=>simp[AV.cells,AV.one]at h1
  |freshO=>simp[AV.cells,AV.one]at h1
  |newbx=>simp[AV.cells,AV.one]at h1
  | arr n xs=>
    have:u.cells= #[u]:=by cases hv.pF <;> rfl
    rw[this]
    refine⟨rfl,λi y v a b=> ?_⟩
    cases i with
    |zero=>simp[AV.cells]at a b;subst a;subst b;exact hv
    |succ i=>simp[AV.cells]at a
  | ay xs off=>
    have:u.cells= #[u]:=by cases hv.nC;rfl
    rw[this]
    refine⟨rfl,λi y v a b=> ?_⟩
    cases i with
    |zero=>simp[AV.cells]at a b;subst a;subst b;exact hv
    |succ i=>simp[AV.cells]at a
  | own id off n ext=>
    obtain⟨a,c,_,_,_,_,_,rfl,_⟩:=hv.nZ
    refine⟨rfl,λi y v a b=> ?_⟩
    cases i with
    |zero=>simp[AV.cells,Value.cells]at a b;subst a;subst b;exact hv
    |succ i=>simp[AV.cells]at a
  | fn f a b=>
    obtain⟨us,vs,rfl,_⟩:=hv.qA
    refine⟨rfl,λi y v a b=> ?_⟩
    cases i with
    |zero=>simp[AV.cells,Value.cells]at a b;subst a;subst b;exact hv
    |succ i=>simp[AV.cells]at a
  | ptr id off ext=>
    obtain⟨a,rfl⟩:=hv.acd
    refine⟨rfl,λi y v a b=> ?_⟩
    cases i with
    |zero=>simp[AV.cells,Value.cells]at a b;subst a;subst b;exact hv
    |succ i=>simp[AV.cells]at a
theorem Uc{H:Array Obj}{x:AV}{u:Value}(hv:VR H F h M x u)(h1:x.one=true):u.oneCell'=true:=by
  cases x with
  |agg xs=>cases h1
  |v y=>obtain rfl:=hv.fJ;cases u <;> first|rfl|cases h1
  |tuple xs=>cases h1
  |fresh=>cases h1
  |freshO=>cases h1
  |newbx=>cases h1
  |arr n xs=>cases hv.pF <;> rfl
  |ay xs off=>cases hv.nC;rfl
  |own id off n ext=>obtain⟨a,c,_,_,_,_,_,rfl,_⟩:=hv.nZ;rfl
  |fn f a b=>obtain⟨us,vs,rfl,_⟩:=hv.qA;rfl
  |ptr id off ext=>obtain⟨a,rfl⟩:=hv.acd;rfl
def Cells(R:AV->Value->Prop)(xs:List AV)(cs:Array Value):Prop:=xs.length=cs.size/\ ∀ (i:Nat) x u,xs[i]? =some x->cs[i]? =some u->R x u
theorem Cells.put{R:AV→Value→Prop}{xs ys:List AV}{cs vs:Array Value}(hc:Cells R xs cs)(hl:ys.length=vs.size)(hy: ∀ (i:Nat) y v,ys[i]? =some y→vs[i]? =some v→R y v){off:Nat}
    (hb:off+ys.length<=xs.length):Cells R (putCells xs off ys) (vs.zipIdx.foldl (λcs (c,j)=>cs.setIfInBounds (off+j) c) cs):=by
  obtain⟨h1,h2⟩:=anG off vs cs
  refine⟨by rw[zI,h1];exact hc.1,λi x u a b=> ?_⟩
  rw[Ul _ _ _ _ hb]at a
  rw[h2 i (by have:=hc.1;omega)]at b
  by_cases e:off<=i/\i<off+ys.length
  · rw[if_pos e]at a
    rw[if_pos ae]at b
    exact hy _ _ _ a b
  · rw[if_neg e]at a
    rw[if_neg ae]at b
    exact hc.2 _ _ _ a b
def Gp(R:AV→Value→Prop)(ps:List (Nat×AV))(qs:List (Nat×Value)):Prop:=
  ps.length=qs.length/\ ∀ (i:Nat) p q,ps[i]? =some p->qs[i]? =some q->p.1=q.1/\R p.2 q.2
theorem Gt{H:Array Obj}{place:Nat→Option (Nat×Nat)}{place':Nat→Option (Nat×Nat)}(hpl: ∀ i x,place i=some x→place' i=some x):
    ∀ {ps:List (Nat×AV)} {qs:List (Nat×Value)} {xs ys:List AV} {cs:Array Value},Gp (VR H F h M) ps qs→Cells (VR H F h M) xs cs→mD place xs ps=some ys→
      ∃ ds,Instr.fill place' cs qs=some ds/\Cells (VR H F h M) ys ds
  | [],qs,xs,ys,cs,hp,hc,e=>by
    obtain rfl:qs=[]:=List.eq_nil_of_length_eq_zero hp.1.symm
    simp only[mD,aH]at e
    subst e
    exact⟨cs,rfl,hc⟩
  |(i,x)::ps,[],xs,ys,cs,hp,hc,e=>by have:=hp.1;simp at this
  | (i, x)::ps,(j,u)::qs,xs,ys,cs,hp,hc,e=>by
    obtain⟨hij,hv⟩:=hp.2 0 _ _ rfl rfl
    dsimp only at hij hv
    subst hij
    simp only[mD,aA,Prod.exists]at e
    obtain⟨off,size,hpos,e⟩:=e
    split at e
    · rename_i hcond
      obtain⟨c1,c2,c3⟩:=hcond
      obtain⟨hl,hy⟩:=cells_ok hv c3
      have hc':=hc.put (off:=off) hl hy ae
      obtain⟨ds,h1,h2⟩:=Gt hpl (ps:=ps) (qs:=qs) ⟨by have:=hp.1;simpa using this,λi p q a b=>hp.2 (i+1) p q (by simpa using a) (by simpa using b)⟩ hc' e
      refine⟨ds,?_,h2⟩
      have hsz:=hc.1
      simp only[Instr.fill,hpl _ _ hpos]
      rw[if_neg]
      · exact h1
      · simp only[ne_eq,Bool.or_eq_true,decide_eq_true_eq]
        omega
    · cases e
theorem zY{t:TypeId}{z:List AV}(hz:dU P t=some z): ∃ i v,P.info? t=some i∧i.zero=some v∧z=v.cells.toList.map .v:=by
  unfold dU at hz
  rw[Option.map_eq_some_iff]at hz
  obtain⟨v,hv,rfl⟩:=hz
  rw[aA]at hv
  obtain⟨i,h1,h2⟩:=hv
  exact⟨i,v,h1,h2,rfl⟩
theorem Na{t:TypeId}{i:TypeInfo}{v:Value}(h1:P.info? t=some i)(h2:i.zero=some v):(zeroValue t).run P w= .ok v w:=by
  simp[zeroValue,run_typeInfo w h1,h2]
theorem ad2{H:Array Obj}(v:Value):Cells (VR H F h M) (v.cells.toList.map .v) v.cells:=by
  refine⟨by simp,λi x u a b=> ?_⟩
  rw[List.getElem?_map,Array.getElem?_toList,b]at a
  simp at a
  subst a
  exact .c .v
theorem axZ(fs:List Field)(hi: ∀ f ∈ fs,∃ i,P.info? f.type=some i):((fs.mapM fun f=>do pure (f.offset,← sizeOf f.type):Sem (List (Nat×Nat)))).run P w= .ok (fs.map fun f=>(f.offset,P.cellsOf f.type)) w:=by
  induction fs with
  |nil=>simp
  | cons f fs ih=>
    obtain⟨i,hf⟩:=hi f (by simp)
    have h1:=ih λg hg=>hi g (by simp[hg])
    simp only[List.mapM_cons,Sem.run_bind,run_sizeOf w hf,Result.andThen_ok,Sem.run_pure,List.map_cons]
    rw[h1]
    rfl
theorem aew{t:TypeId}{ps:List (Nat×AV)}{qs:List (Nat×Value)}{y:AV}(hp:Gp (VR w.heap F h M) ps qs)(e:wB P t ps=some y):
    ∃ u,(Instr.build t ⟨qs⟩).run P w= .ok u w/\VR w.heap F h M y u:=by
  unfold wB at e
  simp only[aA]at e
  obtain⟨z,hz,tv,htv,e⟩:=e
  obtain⟨i,v,hi,hv,rfl⟩:=zY hz
  split at e
  · obtain⟨fs,hu,hfs⟩:=UW htv
    simp only[aA,aH]at e
    obtain⟨xs,e1,rfl⟩:=e
    obtain⟨ds,h1,h2⟩:=Gt (place':=((fs.toList.map fun f=>(f.offset,P.cellsOf f.type))[·]?)) (fun j x hx=>by
      rw[Option.map_eq_some_iff]at hx
      obtain⟨⟨o,ft⟩,h1,rfl⟩:=hx
      obtain⟨fs',f,hu',hf,rfl,rfl⟩:=Rx h1
      rw[hu]at hu'
      injection hu' with hu'
      injection hu' with hu'
      subst hu'
      rw[List.getElem?_map,Array.getElem?_toList,hf]
      rfl) hp (ad2 v) e1
    refine⟨.agg ds,?_,.agg (us:=ds.toList) (by simpa using h2.1) λi x u a b=>h2.2 i x u a (by simpa using b)⟩
    have hm:=axZ (P:=P) (w:=w) fs.toList λf hf=>hfs f (by simpa using hf)
    have hm':((fs.mapM fun f=>do pure (f.offset,← sizeOf f.type):Sem (Array (Nat×Nat)))).run P w= .ok (fs.toList.map fun f=>(f.offset,P.cellsOf f.type)).toArray w:=by
      rw[Array.mapM_eq_mapM_toList]
      simp only[← bind_pure_comp,Sem.run_bind,hm,Result.andThen_ok,Sem.run_pure]
    simp only[Instr.build,Sem.run_bind,Na hi hv,Result.andThen_ok,run_underlying hu,hm',List.getElem?_toArray]
    simp only[h1]
    rfl
  · rename_i n et sz
    obtain⟨hu,inf,hinf,rfl⟩:=xO htv
    simp only[aA,aH]at e
    obtain⟨xs,e1,rfl⟩:=e
    obtain⟨ds,h1,h2⟩:=Gt (place':=λi=>some (i*inf.size,inf.size)) (λj x hx=>hx) hp (ad2 v) e1
    refine⟨.agg ds,?_,.agg (us:=ds.toList) (by simpa using h2.1) λi x u a b=>h2.2 i x u a (by simpa using b)⟩
    have hs:P.cellsOf et=inf.size:=by simp[Program.cellsOf,hinf]
    simp only[Instr.build,Sem.run_bind,Na hi hv,Result.andThen_ok,run_underlying hu,run_sizeOf w hinf,hs]
    simp only[h1]
    rfl
  · cases e
end
end Go.Av
set_option linter.unusedVariables false
namespace Go.Av
theorem flat_get{α:Type}(z:List α): ∀ (n i:Nat),i<n*z.length→((List.replicate n z).flatten)[i]? =z[i%z.length]?
  |0,i,h=>by simp at h
  | n +1,i,h=>by
    rw[List.replicate_succ,List.flatten_cons]
    by_cases hi:i<z.length
    · rw[List.getElem?_append_left hi,Nat.mod_eq_of_lt hi]
    · have h':i - z.length<n*z.length:=by rw[Nat.add_mul]at h;omega
      rw[List.getElem?_append_right ae,flat_get z n _ h',← Nat.mod_eq_sub_mod ae]
theorem flat_length{α:Type}(z:List α)(n:Nat):((List.replicate n z).flatten).length=n*z.length:=by simp
theorem axo(z:Array Value)(n:Nat)(i:Nat)(h:i<n*z.size):((Array.range (n*z.size)).map (z[· %z.size]!))[i]? =z[i%z.size]? :=by
  have h0:0<z.size:=Nat.pos_of_ne_zero λh0=>by rw[h0]at h;simp at h
  have hlt:i%z.size<z.size:=Nat.mod_lt _ h0
  rw[Array.getElem?_map,Array.getElem?_range,if_pos h]
  simp[hlt]
theorem Vs{place:Nat→Option (Nat×Nat)}: ∀ {ps:List (Nat×AV)} {xs ys:List AV},mD place xs ps=some ys→ys.length=xs.length
  |[],xs,ys,e=>by simp only[mD,aH]at e;subst e;rfl
  | (i,x)::ps,xs,ys,e=>by
    simp only[mD,aA,Prod.exists]at e
    obtain⟨off,size,_,e⟩:=e
    split at e
    · rw[Vs e,zI]
    · cases e
section
variable {P:Program} {w:World} {F:Nat->Prop} {h:Heap} {M:Id->Option Nat}
theorem Ut{H:Array Obj}(v:Value)(n m:Nat)(hm:n≤m): ∀ (i:Nat) x,((List.replicate n (v.cells.toList.map AV.v)).flatten)[i]? =some x→ ∃ u,((Array.range (m*v.cells.size)).map (v.cells[· %v.cells.size]!))[i]? =some u∧VC H F x u:=by
  intro i x hx
  have hlt:=(List.getElem?_eq_some_iff.1 hx).1
  rw[flat_length]at hlt
  rw[flat_get _ _ _ hlt]at hx
  have hl:(v.cells.toList.map AV.v).length=v.cells.size:=by simp
  rw[hl]at hlt hx
  have hm':i<m*v.cells.size:=Nat.lt_of_lt_of_le hlt (Nat.mul_le_mul_right _ hm)
  rw[List.getElem?_map,Option.map_eq_some_iff]at hx
  obtain⟨u,hu,rfl⟩:=hx
  exact⟨u,by rw[axo _ _ _ hm'];simpa using hu,.v⟩
theorem FX{s:Sem Value}{o:Obj}{u:Value}{t:AV}(hr:s.run P w= .ok u (w.alloc o))(ht:TR (w.alloc o).heap (VC (w.alloc o).heap F) (VR (w.alloc o).heap F h M) t u [w.heap.size]):tJ P w F h M s t:=
  ⟨u,w.alloc o,[w.heap.size],hr,Su w o,ht,by simp,λb hb=>by simp at hb;subst hb;simp⟩
theorem DI(w:World)(o:Obj):(w.alloc o).heap[w.heap.size]? =some o:=heap_alloc_new w o
theorem ae7(hk:aQ w.heap F h M){t:TypeId}{z:List AV}(hz:dU P t=some z):tJ P w F h M (Instr.alloc t true (.tuple #[])) (.newbx z):=by
  obtain⟨i,v,hi,hv,rfl⟩:=zY hz
  refine FX (o:= .cells v.cells t) (u:= .pointer (some ⟨w.heap.size,0,none⟩)) ?_ (.newbx (us:=v.cells.toList) (e:=t) (DI w _) ?_)
  · simp[Instr.alloc,Na hi hv,newVar,newRow]
  · exact dO.BQ (by simp) fun i x u a b=>by
      rw[List.getElem?_map,b]at a
      simp at a
      subst a
      exact .c .v
theorem ah7(hk:aQ w.heap F h M){t:TypeId}{x:AV}{u:Value}(hv:VR w.heap F h M x u)(h1:x.cells.all AV.one=true):tJ P w F h M (Instr.box t u) (.newbx x.cells):=by
  obtain⟨hl,hx⟩:=cells_ok hv h1
  refine FX (o:= .cells u.cells t) (u:= .pointer (some ⟨w.heap.size,0,none⟩)) ?_ (.newbx (us:=u.cells.toList) (e:=t) (DI w _) ?_)
  · simp[Instr.box,newVar,newRow]
  · exact dO.BQ (by simpa using hl) λi x u a b=>(hx i x u a (by simpa using b)).grown hk (Su w _)
theorem asj{H:Array Obj}{x:AV}{u:Value}(hv:VR H F h M x u)(hc:x.isC=true):VC H F x u:=by
  cases x with
  |v y=>obtain rfl:=hv.fJ;exact .v
  |arr n xs=>exact hv.pF
  |ay xs off=>exact hv.nC
  |_=>cases hc
theorem aev(hk:aQ w.heap F h M){t:TypeId}{n:Nat}{ps:List (Nat×AV)}{qs:List (Nat×Value)}{y:AV}(hp:Gp (VR w.heap F h M) ps qs)(e:uO P t n ps=some y):
    tJ P w F h M (Instr.buildSlice t n ⟨qs⟩) y:=by
  unfold uO at e
  simp only[aA]at e
  obtain⟨tv,htv,e⟩:=e
  split at e
  · rename_i et sz by_
    obtain⟨hu,inf,hinf,rfl,_⟩:=nH htv
    simp only[aA]at e
    obtain⟨z,hz,e⟩:=e
    split at e
    · rename_i hc
      obtain⟨c1,c2,c3⟩:=hc
      simp only[aA,aH]at e
      obtain⟨xs,e1,rfl⟩:=e
      obtain⟨i,v,hi,hv,rfl⟩:=zY hz
      rw[hinf]at hi;injection hi with hi;subst hi
      have hvs:v.cells.size=inf.size:=by simpa using c2
      have hini:Cells (VR w.heap F h M) ((List.replicate n (v.cells.toList.map AV.v)).flatten) ((Array.range (n*inf.size)).map (v.cells[· %v.cells.size]!)):=by
        rw[← hvs]
        refine⟨by simp,λi x u a b=> ?_⟩
        obtain⟨u',q1,q2⟩:=Ut (F:=F) (H:=w.heap) v n n (Nat.le_refl _) i x a
        rw[q1]at b;injection b with b;subst b
        exact .c q2
      obtain⟨ds,h1,h2⟩:=Gt (place':=λi=>some (i*inf.size,inf.size)) (λj x hx=>hx) hp hini e1
      have hrun:(Instr.buildSlice t n ⟨qs⟩).run P w= .ok (.slice (some ⟨w.heap.size,0,none⟩) n n) (w.alloc (.cells ds et)):=by
        have hs:P.cellsOf et=inf.size:=by simp[Program.cellsOf,hinf]
        have hlim: ¬ (n*inf.size>2 ^ 24):=ae
        simp only[Instr.buildSlice,Sem.run_bind,run_underlying hu,Result.andThen_ok,run_sizeOf w hinf,hs,if_neg hlim]
        by_cases h0:n*inf.size=0
        · have hn:n=0:=(Nat.mul_eq_zero.1 h0).resolve_right ae
          subst hn
          simp only[Nat.zero_mul,Array.range_zero',Array.map_empty,if_true]at h1 ⊢
          have:((Array.range 0).map λx=>(#[]:Array Value)[x%(#[]:Array Value).size]!)= #[]:=by simp
          simp[h1,newRow]
        · simp only[if_neg h0,Sem.run_bind,Na hinf hv,Result.andThen_ok,Sem.run_pure]
          simp[h1,newRow]
      have hg:=Su w (.cells ds et)
      have hlen:xs.length=n*inf.size:=by rw[Vs e1];simp[hvs]
      by_cases hcl:xs.all AV.isC=true
      · rw[if_pos hcl]
        refine FX hrun (.fresh (DI w _) (Nat.le_refl _) (by rw[← hlen,h2.1];exact Nat.le_refl _) hlen λi x hx=> ?_)
        obtain⟨u,q1⟩: ∃ u,ds[i]? =some u:=⟨_,Array.getElem?_eq_getElem (by have:=h2.1;have:=(List.getElem?_eq_some_iff.1 hx).1;omega)⟩
        exact⟨u,q1,(asj (h2.2 i x u hx q1) (List.all_eq_true.1 hcl x (List.mem_of_getElem? hx))).grown hk hg⟩
      · rw[if_neg hcl]
        refine FX hrun (.open_ (DI w _) (Nat.le_refl _) (by rw[← hlen,h2.1];exact Nat.le_refl _) hlen λi x hx=> ?_)
        obtain⟨u,q1⟩: ∃ u,ds[i]? =some u:=⟨_,Array.getElem?_eq_getElem (by have:=h2.1;have:=(List.getElem?_eq_some_iff.1 hx).1;omega)⟩
        exact⟨u,q1,(h2.2 i x u hx q1).grown hk hg⟩
    · cases e
  · cases e
theorem aug(hk:aQ w.heap F h M){t e:TypeId}{sz by_:Nat}(htv:aX P t=some (.slice e sz by_)){z:List AV}(hz:dU P e=some z){n c:Int}{k k':IntKind}
    (h0:0<=n) (hnc:n<=c) (hc:c<=2 ^ 47) (hb:c*by_<=2 ^ 47) (hl:z.length=sz):
    tJ P w F h M (Instr.makeSlice t (.int k n) (.int k' c)) (.fresh sz n.toNat (List.replicate n.toNat z).flatten):=by
  obtain⟨hu,inf,hinf,rfl,rfl⟩:=nH htv
  obtain⟨i,v,hi,hv,rfl⟩:=zY hz
  rw[hinf]at hi;injection hi with hi;subst hi
  have hvs:v.cells.size=inf.size:=by simpa using hl
  have hr:=run_make (P:=P) w t e inf v hu hinf hv k k' n c h0 hnc (by rw[Int.mul_comm];omega) ae
  refine FX hr (.fresh (DI w _) ae (by rw[size_madeCells];exact Nat.le_refl _) (by simp[hvs]) λi x hx=> ?_)
  obtain⟨u,q1,q2⟩:=Ut (F:=F) (H:=(w.alloc (.cells (madeCells v.cells (c.toNat*inf.size)) e)).heap) v n.toNat c.toNat ae i x hx
  exact⟨u,by unfold madeCells;rw[← hvs];exact q1,q2⟩
def Ad(R:AV→Value→Prop):Option AV→Option Value→Prop
  |none,none=>True
  |some x,some u=>R x u
  |_,_=>False
theorem adf{H:Array Obj}{x:Option AV}{u:Option Value}{d n:Nat}(hv:Ad (VR H F h M) x u)(e:iP x d=some n):
    (x=none/\u=none/\n=d)∨ ∃ k i,u=some (.int k i)/\0<=i/\n=i.toNat:=by
  unfold iP at e
  split at e
  · cases u with
    |none=>injection e with e;exact .inl ⟨rfl,rfl,e.symm⟩
    |some u=>exact hv.elim
  · cases u with
    |none=>exact hv.elim
    | some u=>
      obtain rfl:=VR.fJ hv
      split at e
      · injection e with e;exact .inr ⟨_,_,rfl,by assumption,e.symm⟩
      · cases e
  · cases e
theorem run_sliceBound{k:IntKind}{i:Int}{y:Nat}{code:BoundsCode}(h0:0≤i)(h1:i≤y):(Instr.sliceBound (.int k i) y code).run P w= .ok i.toNat w:=by
  simp[Instr.sliceBound,asIntOf,h0,h1]
theorem Uw{H:Array Obj}{lo hi:Option AV}{lo' hi':Option Value}{l r len cap:Nat}
    (hl:Ad (VR H F h M) lo lo') (hr:Ad (VR H F h M) hi hi')
    (e1:iP lo 0=some l) (e2:iP hi len=some r) (hlr:l<=r) (hrc:r<=cap):(Instr.sliceBounds true len cap lo' hi' none).run P w= .ok (l,r,cap) w:=by
  have s1:=adf hl e1
  have s2:=adf hr e2
  rcases s2 with⟨_,h2n,rfl⟩|⟨k2,i2,h2n,h2,rfl⟩ <;> rcases s1 with⟨_,h1n,rfl⟩|⟨k1,i1,h1n,h1,rfl⟩ <;> rw[h1n,h2n]
  · simp[Instr.sliceBounds]
  · simp[Instr.sliceBounds,run_sliceBound h1 (show i1<=((r:Nat):Int)by omega)]
  · simp[Instr.sliceBounds,run_sliceBound h2 (show i2<=(cap:Int)by omega)]
  · simp only[Instr.sliceBounds,Sem.run_bind,Sem.run_pure,Result.andThen_ok,run_sliceBound h2 (show i2<=(cap:Int)by omega),run_sliceBound h1 (show i1<=(i2.toNat:Int)by omega),if_true,Option.isSome_none,Bool.false_eq_true,if_false]
theorem ahn (hk:aQ w.heap F h M){t:TypeId}{x y:AV}{u:Value}{lo hi:Option AV}{lo' hi':Option Value}(hv:VR w.heap F h M x u)
    (hl:Ad (VR w.heap F h M) lo lo') (hr:Ad (VR w.heap F h M) hi hi')
    (e:lg P t h.get x lo hi=some y): ∃ v,(Instr.sliceAt t u lo' hi' none).run P w= .ok v w/\VR w.heap F h M y v:=by
  unfold lg at e
  simp only[aA]at e
  obtain⟨tv,htv,e⟩:=e
  split at e
  · rename_i et sz by_ n xs
    obtain⟨hu,inf,hinf,rfl,_⟩:=nH htv
    simp only[aA]at e
    obtain⟨l,e1,r,e2,e⟩:=e
    split at e
    · rename_i hc
      injection e with e;subst e
      have hs:P.cellsOf et=inf.size:=by simp[Program.cellsOf,hinf]
      have run: ∀ a c,n≤c→(Instr.sliceAt t (.slice a n c) lo' hi' none).run P w= .ok (.slice (if c=l then a else a.map (·.add (l*inf.size))) (r - l) (c - l)) w:=fun a c hnc=>by
        simp only[Instr.sliceAt,Sem.run_bind,run_underlying hu,Result.andThen_ok,Instr.slice,Uw hl hr e1 e2 hc.1 (Nat.le_trans hc.2 hnc),run_sizeOf w hinf,hs]
        rfl
      have hvc:=hv.pF
      cases hvc with
      | @gB a c=>
        have:l=0:=ae
        subst this
        have:r=0:=ae
        subst this
        refine⟨_,run a c (Nat.zero_le _),?_⟩
        rw[if_pos (by simp)]
        exact .c .gB
      | @arr _ _ b o c us hcap hF hR hlen hx=>
        refine⟨_,run _ c hcap,?_⟩
        by_cases hcl:c=l
        · subst hcl
          have:r - c=0:=ae
          rw[this]
          rw[if_pos rfl]
          by_cases hcc:c=0/\r=n
          · rw[if_pos hcc]
            obtain⟨rfl,rfl⟩:=hcc
            have:r=0:=ae
            subst this
            exact .c (.arr (Nat.zero_le _) hF hR hlen hx)
          · rw[if_neg hcc]
            simp only[Nat.zero_mul,List.take_zero]
            exact .c .gB
        · rw [if_neg hcl]
          simp only[Option.map_some]
          rw[addr_add]
          by_cases hcc:l=0/\r=n
          · rw[if_pos hcc]
            obtain⟨rfl,rfl⟩:=hcc
            simp only[Nat.sub_zero,Nat.zero_mul,Nat.add_zero]
            exact .c (.arr hcap hF hR hlen hx)
          · rw [if_neg hcc]
            obtain⟨cur,et',fz,q1,q2⟩:=hR
            have hal: ∀ (i:Nat) x,xs[i]? =some x→ ∃ u,(cur.extract o cur.size)[i]? =some u∧VC w.heap F x u:=fun i x hxi=>by
              obtain⟨u,a1,a2⟩:=oK hlen hx hxi
              have a3:=q2 i u a1
              have:=(Array.getElem?_eq_some_iff.1 a3).1
              refine⟨u,?_,a2⟩
              rw[Array.getElem?_extract]
              rw[if_pos ae]
              exact a3
            refine .c (.arr (us:=((us.drop (l*inf.size)).take ((r - l)*inf.size))) ae hF ⟨cur,et',fz,q1,λi u hi=> ?_⟩ (by simp;omega) λi x u a b=> ?_)
            · rw[List.getElem?_take]at hi
              split at hi
              · rw[List.getElem?_drop]at hi
                have:=q2 _ _ hi
                rwa[← Nat.add_assoc]at this
              · cases hi
            · rw[List.getElem?_take]at a b
              by_cases hlt:i<(r - l)*inf.size
              · rw[if_pos hlt,List.getElem?_drop]at a b
                exact hx _ _ _ a b
              · rw[if_neg hlt]at a;cases a
    · cases e
  · rename_i et sz by_ id off n ext
    obtain⟨hu,inf,hinf,rfl,_⟩:=nH htv
    simp only[aA]at e
    obtain⟨blk,hg,e⟩:=e
    split at e
    · rename_i cl rw' sz' ext' cells
      simp only[aA]at e
      obtain⟨l,e1,r,e2,e⟩:=e
      split at e
      · rename_i hc
        obtain⟨rfl,rfl,c1,c2,c3⟩:=hc
        injection e with e;subst e
        have hs:P.cellsOf et=inf.size:=by simp[Program.cellsOf,hinf]
        obtain⟨a,c,cl2,rw2,sz2,e2',cells2,rfl,hg',hn,hle,ho⟩:=hv.nZ
        rw[hg]at hg'
        injection hg' with hg'
        injection hg' with _ _ q1 q2 q3
        subst q1;subst q2;subst q3
        have hown:=ho rfl
        obtain⟨hx,hown⟩:=ho rfl
        have hrc:r<=c:=Nat.le_of_mul_le_mul_right ae c3
        refine⟨.slice (if c=l then a else a.map (·.add (l*inf.size))) (r - l) (c - l),?_,?_⟩
        · simp only[Instr.sliceAt,Sem.run_bind,run_underlying hu,Result.andThen_ok,Instr.slice,Uw hl hr e1 e2 c1 hrc,run_sizeOf w hinf,hs]
          rfl
        · refine .own hg ae (Nat.le_refl _) fun _=>⟨?_,?_⟩
          · have h1:l*inf.size+(c - l)*inf.size=c*inf.size:=by rw[← Nat.add_mul];congr 1;omega
            omega
          · by_cases hcl:c=l
            · exact .inl ⟨by omega,by omega⟩
            · rcases hown with⟨_,h0⟩|⟨b,S,h1,rfl,h3,h4⟩
              · omega
              · refine .inr ⟨b,S,h1,?_,h3,?_⟩
                · rw[if_neg hcl];simp only[Option.map_some];rw[addr_add]
                · have h1:l*inf.size+(c - l)*inf.size=c*inf.size:=by rw[← Nat.add_mul];congr 1;omega
                  omega
      · cases e
    · cases e
  · rename_i et sz by_
    obtain⟨hu,inf,hinf,rfl,_⟩:=nH htv
    simp only[aA]at e
    obtain⟨l,e1,r,e2,e⟩:=e
    split at e
    · rename_i hc
      obtain⟨rfl,rfl⟩:=hc
      injection e with e;subst e
      have hs:P.cellsOf et=inf.size:=by simp[Program.cellsOf,hinf]
      obtain rfl:=hv.fJ
      refine⟨.slice none 0 0,?_,.c .v⟩
      simp only[Instr.sliceAt,Sem.run_bind,run_underlying hu,Result.andThen_ok,Instr.slice,Uw hl hr e1 e2 (Nat.le_refl 0) (Nat.le_refl 0),run_sizeOf w hinf,hs]
      rfl
    · cases e
  · cases e
end
end Go.Av
set_option linter.unusedVariables false
namespace Go.Av
section
variable {P:Program} {w:World} {F:Nat->Prop} {h:Heap} {M:Id->Option Nat}
def ww(P:Program)(w:World)(F:Nat→Prop)(h:Heap)(M:Id→Option Nat)(s:Sem Next)(t:AV):Prop:=
  ∃ u w' bs,s.run P w= .ok (.value u) w'/\w.grownBy w' none/\TR w'.heap (VC w'.heap F) (VR w'.heap F h M) t u bs/\bs.Nodup/\ ∀ b ∈ bs,w.heap.size<=b/\b<w'.heap.size
theorem tJ.next{s:Sem Value}{t:AV}(hy:tJ P w F h M s t):ww P w F h M (do pure (.value (← s))) t:=by
  obtain⟨u,w',bs,h1,h2⟩:=hy
  exact⟨u,w',bs,by simp[h1],h2⟩
theorem ww.same{s:Sem Value}{t:AV}{u:Value}(hr:s.run P w= .ok u w)(hv:VR w.heap F h M t u):ww P w F h M (do pure (.value (← s))) t:=(tJ.same hr hv).next
theorem ww.val{t:AV}{u:Value}(hv:VR w.heap F h M t u):ww P w F h M (pure (.value u)) t:=
  ⟨u,w,[],rfl,Ep w,.base hv,List.nodup_nil,λ_ h=>by cases h⟩
theorem ab5{e:Nat→Option AV}{a:Act}(he:fK w.heap F h M e a): ∀ {ps:List (Nat×Operand)} {qs:List (Nat×AV)},aZ (fun p:Nat×Operand=>(aB e p.2).bind fun y=>some (p.1,y)) ps=some qs→
    Gp (VR w.heap F h M) qs (ps.map λ(i,x)=>(i,a.eval x)):=by
  intro ps qs ho
  obtain⟨h1,h2⟩:=MF ho
  refine⟨by simp[h1],λi p q hp hq=> ?_⟩
  obtain⟨x,hx1,hx2⟩:=h2 i p hp
  rw[List.getElem?_map,hx1]at hq
  simp only[Option.map_some,aH]at hq
  subst hq
  simp only[aA,aH]at hx2
  obtain⟨y,hy,rfl⟩:=hx2
  exact⟨rfl,gV he hy⟩
theorem abH{e:Nat→Option AV}{a:Act}(he:fK w.heap F h M e a){x:Option Operand}{y:Option AV}(ho:qf (aB e) x=some y):
    Ad (VR w.heap F h M) y (x.map a.eval):=by
  cases x with
  |none=>simp only[qf,aH]at ho;subst ho;trivial
  | some x=>
    simp only[qf,aA,aH]at ho
    obtain⟨z,hz,rfl⟩:=ho
    exact gV he hz
theorem ae4{H:Array Obj}{x:AV}{u:Value}{n:Nat}(hv:VR H F h M x u)(e:wF x=some n): ∃ a c,u= .slice a n c:=by
  unfold wF at e
  split at e
  · injection e with e;subst e;cases hv.pF <;> exact⟨_,_,rfl⟩
  · injection e with e;subst e;obtain⟨a,c,_,_,_,_,_,rfl,_⟩:=hv.nZ;exact⟨_,_,rfl⟩
  · injection e with e;subst e;obtain rfl:=hv.fJ;exact⟨_,_,rfl⟩
  · cases e
theorem aex{b:Builtin}{ts:Array TypeId}{xs:List AV}{us:List Value}{y:AV}(hl:xs.length=us.length)
    (hx: ∀ (i:Nat) x u,xs[i]? =some x->us[i]? =some u->VR w.heap F h M x u) (e:jh P b ts xs=some y): ∃ v,(∀ ty cs,(Go.builtin b ts ty cs ⟨us⟩).run P w= .ok (.value v) w)/\VR w.heap F h M y v:=by
  unfold jh at e
  split at e
  · rename_i x
    match us,hl with
    | [u],_=>
      have hv:=hx 0 x u rfl rfl
      simp only[aA]at e
      obtain⟨t,ht,tv,htv,e⟩:=e
      split at e
      · obtain⟨hu,_⟩:=nH htv
        simp only[aA,aH]at e
        obtain⟨n,hn,rfl⟩:=e
        obtain⟨a,c,rfl⟩:=ae4 hv hn
        exact⟨_,λty cs=>by simp[Go.builtin,Builtin.len_,ht,run_underlying hu,goInt],.c .v⟩
      · have hu:=NG htv
        split at e
        · obtain rfl:=hv.fJ
          injection e with e;subst e
          exact⟨_,λty cs=>by simp[Go.builtin,Builtin.len_,ht,run_underlying hu,goInt],.c .v⟩
        · cases e
      · rename_i n et sz
        obtain⟨hu,_⟩:=xO htv
        injection e with e;subst e
        exact⟨_,λty cs=>by simp[Go.builtin,Builtin.len_,ht,run_underlying hu,goInt],.c .v⟩
      · cases e
  · match us,hl with
    | [u],_=>
      obtain rfl:=(hx 0 _ u rfl rfl).fJ
      simp only[aA]at e
      obtain⟨t,ht,tv,htv,e⟩:=e
      split at e
      · obtain⟨hu,_⟩:=nH htv
        injection e with e;subst e
        exact⟨_,λty cs=>by simp[Go.builtin,Builtin.cap_,ht,run_underlying hu,goInt],.c .v⟩
      · cases e
  · rename_i k a k' b'
    match us,hl with
    | [u,v],_=>
      obtain rfl:=(hx 0 _ u rfl rfl).fJ
      obtain rfl:=(hx 1 _ v rfl rfl).fJ
      split at e
      · rename_i hk
        subst hk
        injection e with e;subst e
        refine⟨_,λty cs=> ?_,.c .v⟩
        simp[Go.builtin,Builtin.min_,Builtin.min2]
      · cases e
  · rename_i k a k' b'
    match us,hl with
    | [u,v],_=>
      obtain rfl:=(hx 0 _ u rfl rfl).fJ
      obtain rfl:=(hx 1 _ v rfl rfl).fJ
      split at e
      · rename_i hk
        subst hk
        injection e with e;subst e
        refine⟨_,λty cs=> ?_,.c .v⟩
        simp[Go.builtin,Builtin.max_,Builtin.max2]
      · cases e
  · cases e
theorem ww.run{s:Sem Next}{t:AV}{u:Value}(hr:s.run P w= .ok (.value u) w)(hv:VR w.heap F h M t u):ww P w F h M s t:=
  ⟨u,w,[],hr,Ep w,.base hv,List.nodup_nil,λ_ h=>by cases h⟩
theorem Pj(hk:aQ w.heap F h M){e:Nat→Option AV}{a:Act}(he:fK w.heap F h M e a){o:Oper}{t:AV}(hq:aq P e h.get o.op=some t):ww P w F h M (execOp a.eval o) t:=by
  unfold aq at hq
  unfold execOp
  split at hq <;> rename_i hop <;> simp only[hop]
  · exact .val (gV he hq)
  · exact .val (gV he hq)
  · -- pick
    simp only[aA]at hq
    obtain⟨c,hc,hq⟩:=hq
    split at hq
    · have hcv:=(gV he hc).fJ
      split at hq
      · rename_i hb
        exact .run (by simp[hcv,asBool,hb]) (gV he hq)
      · rename_i hb
        exact .run (by simp[hcv,asBool,hb]) (gV he hq)
    · cases hq
  · -- alloc
    simp only[aA,aH]at hq
    obtain⟨z,hz,rfl⟩:=hq
    exact(ae7 hk hz).next
  · -- box
    simp only[aA]at hq
    obtain⟨y,hy,hq⟩:=hq
    split at hq
    · injection hq with hq;subst hq
      exact(ah7 hk (gV he hy) (by assumption)).next
    · cases hq
  · -- build
    simp only[aA]at hq
    obtain⟨ps,hps,hq⟩:=hq
    obtain⟨u,h1,h2⟩:=aew (ab5 he (by simpa only[aA]using hps)) hq
    exact .same (by simpa using h1) h2
  · -- buildSlice
    simp only[aA]at hq
    obtain⟨ps,hps,hq⟩:=hq
    have h1:=aev hk (ab5 he (by simpa only[aA]using hps)) hq
    simpa using h1.next
  · -- load
    simp only[aA]at hq
    obtain⟨p,hp,hq⟩:=hq
    obtain⟨v,h1,h2⟩:=afa (P:=P) hk (gV he hp) hq
    exact .same h1 h2
  · -- nilCheck
    simp only[aA]at hq
    obtain⟨y,hy,hq⟩:=hq
    have hv:=gV he hy
    split at hq
    · split at hq
      · rename_i hl
        obtain⟨b,hg,hb⟩:=LQ hl
        injection hq with hq;subst hq
        obtain⟨x,hu,_⟩:=Uk hk hv hg hb 0
        refine .run ?_ hv
        simp only[hu]
        rfl
      · cases hq
    · injection hq with hq;subst hq
      obtain⟨x,hu,_⟩:=hv.nC.Ur 0
      refine .run ?_ hv
      simp only[hu]
      rfl
    · injection hq with hq;subst hq
      obtain⟨us,vs,hu,_⟩:=hv.qA
      refine .run ?_ hv
      simp only[hu]
      rfl
    · cases hq
  · -- binOp
    simp only[aA]at hq
    obtain⟨x,hx,y,hy,hq⟩:=hq
    obtain⟨z,h1,rfl⟩:=aet (P:=P) (gV he hx) (gV he hy) hq
    exact .same h1 (.c .v)
  · -- unOp
    simp only[aA]at hq
    obtain⟨x,hx,hq⟩:=hq
    obtain⟨z,h1,rfl⟩:=ahs (P:=P) (gV he hx) hq
    exact .same h1 (.c .v)
  · -- convert
    simp only[aA]at hq
    obtain⟨x,hx,tv1,ht1,tv2,ht2,n,hn,hq⟩:=hq
    obtain⟨k,hu⟩:=DL (gV he hx) hn
    split at hq
    · injection hq with hq;subst hq
      obtain⟨d1,hd1⟩:=vW ht1
      have hd2:=FO ht2
      refine .same (u:= .int _ _) ?_ (.c .v)
      rw[hu]
      simp[convert,run_underlying hd1,run_underlying hd2,Conv.intToInt]
    · cases hq
  · -- makeFunc
    simp only[aA,aH]at hq
    obtain⟨xs,hx,ys,hy,rfl⟩:=hq
    obtain⟨l1,x1⟩:=zC he hx
    obtain⟨l2,x2⟩:=zC he hy
    refine .same (u:= .func (.func _) ⟨_⟩ ⟨_⟩) ?_ (.fn l1 x1 l2 x2)
    simp[Instr.makeFunc]
  · -- makeSlice
    simp only[aA]at hq
    obtain⟨x,hx,y,hy,n,hn,c,hc,tv,htv,hq⟩:=hq
    obtain⟨k,hu⟩:=DL (gV he hx) hn
    obtain⟨k',hu'⟩:=DL (gV he hy) hc
    split at hq
    · simp only[aA]at hq
      obtain⟨z,hz,hq⟩:=hq
      split at hq
      · rename_i hcond
        injection hq with hq;subst hq
        obtain⟨c1,c2,c3,c4,c5⟩:=hcond
        rw[hu,hu']
        exact(aug hk htv hz c1 c2 c3 c4 c5).next
      · cases hq
    · cases hq
  · -- slice
    simp only[aA]at hq
    obtain⟨x,hx,l,hl,r,hr,hq⟩:=hq
    obtain⟨v,h1,h2⟩:=ahn (P:=P) hk (gV he hx) (abH he hl) (abH he hr) hq
    exact .same h1 h2
  · -- fieldAddr
    simp only[aA]at hq
    obtain⟨x,hx,hq⟩:=hq
    obtain⟨v,h1,h2⟩:=aeH (P:=P) hk (gV he hx) hq
    exact .same h1 h2
  · -- field
    simp only[aA,Prod.exists]at hq
    obtain⟨x,hx,o',ft,hf,hq⟩:=hq
    split at hq
    · obtain⟨us,hu,hl,hxs⟩:=(gV he hx).nM
      obtain⟨fs,f,hd,hfs,rfl,rfl⟩:=Rx hf
      obtain⟨v,h1,h2⟩:=Cf (P:=P) (w:=w) hl hxs hq
      refine .same (u:=v) ?_ h2.vr
      rw[hu]
      simpa[Instr.field,run_underlying hd,hfs,asAgg]using h1
    · cases hq
  · -- indexAddr
    simp only[aA]at hq
    obtain⟨x,hx,y,hy,n,hn,hq⟩:=hq
    obtain⟨k,hu⟩:=DL (gV he hy) hn
    obtain⟨v,h1,h2⟩:=aeM (P:=P) (k:=k) hk (gV he hx) hq
    refine .same (u:=v) ?_ h2
    rw[hu];exact h1
  · -- index
    simp only[aA]at hq
    obtain⟨x,hx,y,hy,n,hn,hq⟩:=hq
    obtain⟨k,hu⟩:=DL (gV he hy) hn
    obtain⟨v,h1,h2⟩:=aeN (P:=P) (k:=k) (gV he hx) hq
    refine .same (u:=v) ?_ h2
    rw[hu];exact h1
  · -- extract
    simp only[aA]at hq
    obtain⟨x,hx,hq⟩:=hq
    split at hq
    · obtain⟨us,hu,hl,hxs⟩:=(gV he hx).xM
      obtain⟨v,q1,q2⟩:=oK hl hxs hq
      refine .same (u:=v) ?_ q2
      rw[hu]
      simp[Instr.extract,q1]
    · cases hq
  · -- builtin
    simp only[aA]at hq
    obtain⟨xs,hx,hq⟩:=hq
    obtain⟨l1,x1⟩:=zC he hx
    obtain⟨v,h1,h2⟩:=aex (P:=P) l1 x1 hq
    refine .run (u:=v) ?_ h2
    simp only[resolve,Sem.run_bind,Sem.run_pure,Result.andThen_ok,invoke,List.map_toArray]
    exact h1 _ _
  · cases hq
end
end Go.Av
