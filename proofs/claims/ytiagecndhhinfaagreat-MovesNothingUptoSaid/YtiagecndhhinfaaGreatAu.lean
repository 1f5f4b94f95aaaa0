/- Walks that go by themselves: states where ways meet are told as changes of the state ahead. Conditions: those that each names. -/
import Derived.Test.YtiagecndhhinfaaGreatLt
set_option linter.unusedVariables false
set_option linter.defProp false
namespace Go.Av
def jn{ρ τ β:Type}(i:Nat)(r:ρ)(k:τ->Option β)(s:Option β):Option β:=s
def jc{ρ τ β:Type}(i:Nat)(r:ρ)(k:τ->Option β)(s:Option β):Option β:=s
theorem dB{ρ τ β:Type}{i:Nat}{r:ρ}{k:τ->Option β}{s:Option β}:jn i r k s=s:=rfl
theorem SY{ρ τ β:Type}{i:Nat}{r:ρ}{k:τ->Option β}{s:Option β}:jc i r k s=s:=rfl
def kG{β:Type}(c:Prop)[Decidable c](a b:Option β):Option β:=if c then a else b
theorem mW{β:Type}{c:Prop}[Decidable c]{a b:Option β}(h:c):kG c a b=a:=if_pos h
theorem mV{β:Type}{c:Prop}[Decidable c]{a b:Option β}(h: ¬ c):kG c a b=b:=if_neg h
structure LJ (i m:Nat) (ρ τ:Type) where
  u:ρ->τ->Env->Env
  v:ρ->τ->Heap->Heap
structure LC (i:Nat) (ρ τ:Type) where
  u:ρ->τ->AV
  v:ρ->τ->Heap->Heap
def er:Env→Nat→AV
  |[],_=> .v undef
  |(j,x)::e,k=>if j=k then x else er e k
def hr:Heap→Id→ak
  |[],_=> .bx false []
  |(j,x)::h,k=>if j=k then x else hr h k
def bs:ak→Nat→AV→ak
  | .sl a b s n c,i,x=> .sl a b s n (c.set i x)
  | .bx r c,i,x=> .bx r (c.set i x)
def hx(h:Heap)(k:Id):Nat:=(hr h k).ext
theorem amo{j k:Nat}{x:AV}{e:Env}:er ((j,x)::e) k=if j=k then x else er e k:=rfl
theorem aqu{j k:Id}{x:ak}{h:Heap}:hr ((j,x)::h) k=if j=k then x else hr h k:=rfl
theorem aim{r c i x}:bs (.bx r c) i x= .bx r (c.set i x):=rfl
theorem ain{a b s n c i x}:bs (.sl a b s n c) i x= .sl a b s n (c.set i x):=rfl
theorem aqx{h:Heap}{k:Id}:hx h k=(hr h k).ext:=rfl
theorem amU{a b s n c}:(ak.sl a b s n c).ext=n:=rfl
theorem av1{e:Nat->Option AV}:aB e (.const (.pointer none))=some (.v (.pointer none)):=rfl
theorem axh{d lvl:Nat}{h:Heap}:qo lvl d h (some (.v (.pointer none)))=some (.v (.pointer none),h):=rfl
def RU:=af @av1<|af @axh<|af @amo<|af @aqu<|af @aim<|af @ain<|af @aqx<| @amU
def yF:Code→Nat
  | .region i _ _=>2*i
  | .block i _=>2*i+1
  | .seq a _=>yF a
  | .loop c=>yF c
  | .scope c=>yF c
  | .cond _ a b=>yF a+yF b
  |_=>0
section
variable {β:Type} {m m':Option AV} {s s' s1 s2:Option β} {enc:β->AV}
theorem J.hd(h:s=s')(j:J m s' enc):J m s enc:=by subst h;exact j
theorem J.atI{l:List Int}{i:Int}{k:Int→Option β}(a: ∀ r,0≤i→i<l.length→l[i.toNat]? =Option.some r→(∀ q,(lm (ik q) l)[i.toNat]? =Option.some (.v (.int q r)))→J m (k r) enc):J m ((at? l i).bind k) enc:=
  J.at λr h0 h1 h2=>a r h0 h1 h2 λ_=>fD h2
theorem J.atB{l:List Bool}{i:Int}{k:Bool→Option β}(a: ∀ r,0≤i→i<l.length→l[i.toNat]? =Option.some r→(lm bk l)[i.toNat]? =Option.some (.v (.bool r))→J m (k r) enc):J m ((at? l i).bind k) enc:=
  J.at λr h0 h1 h2=>a r h0 h1 h2 (atT h2)
theorem J.atL{l:List (List Int)}{i:Int}{k:List Int→Option β}(a: ∀ r,0≤i→i<l.length→l[i.toNat]? =Option.some r→(∀ q,(lm (eP (ik q)) l)[i.toNat]? =Option.some (.arr r.length (lm (ik q) r)))→J m (k r) enc):J m ((at? l i).bind k) enc:=
  J.at λr h0 h1 h2=>a r h0 h1 h2 λ_=>aa0 h2
theorem J.Ar{α:Type}{c:α→List AV}{l:List (List α)}{i:Int}{k:List α→Option β}(a: ∀ r,0≤i→i<l.length→l[i.toNat]? =Option.some r→(lm (AB c) l)[i.toNat]? =Option.some (.arr r.length (fm c r))→J m (k r) enc):J m ((at? l i).bind k) enc:=
  J.at λr h0 h1 h2=>a r h0 h1 h2 (atP h2)
theorem anC{α:Type}{c:α→List AV}{w i:Nat}(hw: ∀ x,(c x).length=w){l:List α}{x:α}(h:l[i]? =Option.some x)(p:Nat)(h1:i*w≤p)(h2:p<i*w+w):(fm c l)[p]? =(c x)[p - i*w]? :=by
  have:=yX (j:=p - i*w) hw h ae
  rw[show i*w+(p - i*w)=p by omega]at this
  exact this
theorem J.AA{α:Type}{c:α→List AV}{w:Nat}(hw: ∀ x,(c x).length=w){l:List α}{i:Int}{k:α→Option β}
    (a: ∀ r,0<=i->i<l.length->l[i.toNat]? =Option.some r->(((fm c l).drop (i.toNat*w)).take w=c r/\(i.toNat*w+w<=(fm c l).length)=True/\(∀ j,j<w->(fm c l)[i.toNat*w+j]? =(c r)[j]?)/\(0<w->(fm c l)[i.toNat*w]? =(c r)[0]?))->J m (k r) enc):J m ((at? l i).bind k) enc:=
  J.at λr h0 h1 h2=>a r h0 h1 h2 ⟨yY hw h2,Bl hw h2,λ_ hj=>yX hw h2 hj,λh=>Ee hw h2 h⟩
theorem J.Az{α:Type}{c:α→List AV}{w i:Nat}(hw: ∀ x,(c x).length=w){l:List α}{k:α→Option β}
    (a: ∀ r,((i:Nat):Int)<l.length->l[i]? =Option.some r->(((fm c l).drop (i*w)).take w=c r/\(i*w+w<=(fm c l).length)=True/\(∀ p,i*w<=p->p<i*w+w->(fm c l)[p]? =(c r)[p - i*w]?))->J m (k r) enc):J m ((at? l (OfNat.ofNat i)).bind k) enc:=
  J.at λr h0 h1 h2=>a r h1 h2 ⟨yY hw h2,Bl hw h2,anC hw h2⟩
theorem J.kG{c:Prop}[Decidable c](a:c->J m s1 enc)(b: ¬ c->J m s2 enc):J m (kG c s1 s2) enc:=J.ite a b
theorem J.asw{a b:Int}{d:Decidable (a<b)}(p:a<b→ ¬ b≤a→J m s1 enc)(q: ¬ a<b→b≤a→J m s2 enc):J m (if a<b then s1 else s2) enc:=by
  by_cases h:a<b
  · rw[if_pos h];exact p h ae
  · rw[if_neg h];exact q h ae
theorem J.asv{a b:Int}{d:Decidable (a≤b)}(p:a≤b→ ¬ b<a→J m s1 enc)(q: ¬ a≤b→b<a→J m s2 enc):J m (if a≤b then s1 else s2) enc:=by
  by_cases h:a<=b
  · rw[if_pos h];exact p h ae
  · rw[if_neg h];exact q h ae
theorem J.asu{a b:Int}{d:Decidable (a=b)}(p:decide (a=b)=true→a≤b→b≤a→J m s1 enc)(q: ¬ a=b→J m s2 enc):J m (if a=b then s1 else s2) enc:=by
  by_cases h:a=b
  · rw[if_pos h];exact p (decide_eq_true h) ae ae
  · rw[if_neg h];exact q h
theorem J.ass{b:Bool}{d:Decidable (b=true)}(p:b=true→J m s1 enc)(q:b=false→J m s2 enc):J m (if b=true then s1 else s2) enc:=by
  cases b
  · rw[if_neg Bool.false_ne_true];exact q rfl
  · rw[if_pos rfl];exact p rfl
theorem J.ast{c:Prop}{d:Decidable c}(p:decide c=true→J m s1 enc)(q: ¬ c→J m s2 enc):J m (if c then s1 else s2) enc:=by
  by_cases h:c
  · rw[if_pos h];exact p (decide_eq_true h)
  · rw[if_neg h];exact q h
variable {P:Program} {C:bG} {cp:aC} {ci:bz} {lvl:Nat} {prot:List Id} {D:List (Nat×List Nat)} {n:Nat} {K:KK}
variable {e:Env} {h:Heap} {fs:List Fr} {a b c:Code}
theorem J.pO{i t0:Nat}{ρ τ:Type}(L:LJ i t0 ρ τ){r:ρ}{fj:τ→Option β}{e1:τ→Env}{h1:τ→Heap}(ht:yF b=t0)(hu: ∀ t,L.u r t e=e1 t)(hv: ∀ t,L.v r t h=h1 t)
    (g1: ∀ t,J (go P C cp ci lvl prot D n K b (e1 t) (h1 t) fs) (fj t) enc)
    (g2:(∀ t e' h',e'=e1 t->h'=h1 t->J (ret P C cp ci lvl prot D n K (.bar:: .seq b::fs) .normal e' h') (fj t) enc)->J (go P C cp ci lvl prot D n K a e h (.bar:: .seq b::fs)) s enc):
    J (go P C cp ci lvl prot D n K (.seq a b) e h fs) (jn i r fj s) enc:=
  J.Ls (λt=>(e1 t,h1 t)) fj g1 λhj=>g2 λt e' h' he hh=>by subst he hh;exact hj t
theorem J.sqj{i:Nat}{ρ τ:Type}{r:ρ}{fj:τ->Option β}(j:J (go P C cp ci lvl prot D n K a e h (.seq b::fs)) (jn i r fj s) enc):J (go P C cp ci lvl prot D n K (.seq a b) e h fs) (jn i r fj s) enc:=J.eq gG j
theorem J.rqj{i:Nat}{ρ τ:Type}{r:ρ}{fj:τ->Option β}(j:J (go P C cp ci lvl prot D n K b e h fs) (jn i r fj s) enc):J (ret P C cp ci lvl prot D n K (.seq b::fs) .normal e h) (jn i r fj s) enc:=J.eq gq j
theorem J.sqc{i:Nat}{ρ τ:Type}{r:ρ}{fj:τ->Option β}(j:J (go P C cp ci lvl prot D n K a e h (.seq b::fs)) (jc i r fj s) enc):J (go P C cp ci lvl prot D n K (.seq a b) e h fs) (jc i r fj s) enc:=J.eq gG j
theorem J.rqc{i:Nat}{ρ τ:Type}{r:ρ}{fj:τ->Option β}(j:J (go P C cp ci lvl prot D n K b e h fs) (jc i r fj s) enc):J (ret P C cp ci lvl prot D n K (.seq b::fs) .normal e h) (jc i r fj s) enc:=J.eq gq j
theorem J.sql{σ:Type}{body:(σ->Option β)->σ->Option β}{k:Nat}{s0:σ}(j:J (go P C cp ci lvl prot D n K a e h (.seq b::fs)) (aT body k s0) enc):J (go P C cp ci lvl prot D n K (.seq a b) e h fs) (aT body k s0) enc:=J.eq gG j
theorem J.rql{σ:Type}{body:(σ->Option β)->σ->Option β}{k:Nat}{s0:σ}(j:J (go P C cp ci lvl prot D n K b e h fs) (aT body k s0) enc):J (ret P C cp ci lvl prot D n K (.seq b::fs) .normal e h) (aT body k s0) enc:=J.eq gq j
theorem J.pR{i t0:Nat}{σ:Type}(L:LJ i t0 Unit σ){body:(σ→Option β)→σ→Option β}{s0:σ}{e1:σ→Env}{h1:σ→Heap}{k:Nat}(ht:yF c=t0)
    (hu: ∀ s,L.u () s e=e1 s) (hv: ∀ s,L.v () s (sweep prot e h)=h1 s) (he:e=e1 s0) (hh:sweep prot e h=h1 s0)
    (g: ∀ (next:σ→Option β) (k:Nat),(∀ s e h,e=e1 s→sweep prot e h=h1 s→J (gl P C cp ci lvl prot D n K c k e h fs) (next s) enc)→
      ∀ s,J (go P C cp ci lvl prot D n K c (e1 s) (h1 s) (.loop c k::fs)) (body next s) enc):
    J (gl P C cp ci lvl prot D n K c k e h fs) (aT body k s0) enc:=
  J.loop (λs=>(e1 s,h1 s)) body he hh g
theorem J.auY{σ:Type}{e1:σ→Env}{h1:σ→Heap}{next:σ→Option β}{k:Nat}{s:σ}(hn: ∀ s e h,e=e1 s→sweep prot e h=h1 s→J (gl P C cp ci lvl prot D n K c k e h fs) (next s) enc)
    (he:e=e1 s) (hh:sweep prot e h=h1 s):J (gl P C cp ci lvl prot D n K c k e h fs) (next s) enc:=hn s e h he hh
def Tf(P:Program)(rs:List ResultVar)(h:Heap)(nx:AV×Heap->Option AV):KK:=kin P rs h nx
theorem J.pI{i:Nat}{ρ τ:Type}(L:LC i ρ τ){r:ρ}{fj:τ→Option β}{w1:τ→AV}{h1:τ→Heap}{rs:List ResultVar}{nx:AV×Heap→Option AV}{h0:Heap}(hu: ∀ t,L.u r t=w1 t)(hv: ∀ t,L.v r t h0=h1 t)
    (g1: ∀ t,J (nx (w1 t,h1 t)) (fj t) enc)
    (g2:(∀ t e' h',BF P rs h0 e' h'=Option.some (w1 t,h1 t)→J (Tf P rs h0 nx .ret e' h') (fj t) enc)→(∀ t e' h',BF P rs h0 e' h'=Option.some (w1 t,h1 t)→J (Tf P rs h0 nx .normal e' h') (fj t) enc)→
      J (go P C cp ci lvl prot D n (Tf P rs h0 nx) c e h []) s enc):J (go P C cp ci lvl prot D n (kin P rs h0 nx) c e h []) (jc i r fj s) enc:=
  g2 (λt e' h' hv=>J.aaT (st:=λt=>(w1 t,h1 t)) g1 hv) (λt e' h' hv=>J.asL (st:=λt=>(w1 t,h1 t)) g1 hv)
end
theorem jo{p:Prop}:(Unit->p)=p:=propext ⟨λh=>h (),λh _=>h⟩
structure Ct (P:Program) where
  f:FuncId
  c:List AV->Option AV
  ok: ∀ args r,c args=Option.some r->bH P f args r
section
variable {P:Program}
structure Cm (P:Program) (α β:Type) where
  f:FuncId
  ea:α->List AV
  F:α->Option β
  e:β->AV
  ok: ∀ a b,F a=some b->bH P f (ea a) (e b)
  inj:jZ ea
noncomputable def Cm.ct{α β:Type}(c:Cm P α β):Ct P:=⟨c.f,iU c.ea c.F c.e,jL c.ok⟩
def NZ(cp:aC)(c:Ct P):Prop:= ∀ args r,c.c args=Option.some r->cp c.f args=Option.some r
theorem Cm.at{α β:Type}(c:Cm P α β){cp:aC}(H:NZ cp c.ct)(a:α)(b:β)(h:c.F a=some b):cp c.f (c.ea a)=some (c.e b):=H _ _ (jK c.inj h)
def Hits(cp:aC):List (Ct P)→Prop
  |[]=>True
  |c::l=>NZ cp c/\Hits cp l
noncomputable def UI:List (Ct P)→aC
  |[]=>nX
  |c::l=>iI c.f c.c (UI l)
theorem FB: ∀ l:List (Ct P),aK P (UI l)
  |[]=>oU
  |c::l=>jO (FB l) c.ok
theorem aao{cp cp':aC}: ∀ l:List (Ct P),(∀ c ∈ l,∀ args r,cp c.f args=Option.some r→cp' c.f args=Option.some r)→Hits cp l→Hits cp' l
  |[],_,_=>trivial
  |c::l,h,H=>⟨λargs r hc=>h c (.head _) args r (H.1 args r hc),aao l (λd hd=>h d (.tail _ hd)) H.2⟩
theorem UJ: ∀ l:List (Ct P),(l.map Ct.f).Nodup→Hits (UI l) l
  |[],_=>trivial
  |c::l,h=>⟨λargs r hc=>jM hc,aao l (λd hd args r hc=>uz (λheq=>(List.nodup_cons.1 h).1 (heq ▸ List.mem_map_of_mem hd)) hc) (UJ l (List.nodup_cons.1 h).2)⟩
variable {β:Type} {s:Option β} {enc:β->AV} {D:List (Nat×List Nat)} {n:Nat}
theorem acf(hm:P.follows .mixedOrders=true)(l:List (Ct P)){ids:List Nat}(hl:l.map Ct.f=ids)(hn:ids.Nodup){f:FuncId}{i:aU}(hi:aN P f D=Option.some i){args:List AV}{C:bG}{ci:aC→bz}(hc: ∀ cp,aK P cp→eH P (ci cp))
    (j: ∀ cp,Hits cp l->J (go P C cp (ci cp) 0 [] D n (fin P i.results i.types) i.code (bW 0 args) [] []) s enc) {b:β} (hb:s=Option.some b):bH P f args (enc b):=
  qg hm (FB l) (hc _ (FB l)) hi (j _ (UJ l (hl ▸ hn))) hb
theorem ace(hm:P.follows .mixedOrders=true)(l:List (Ct P)){ids:List Nat}(hl:l.map Ct.f=ids)(hn:ids.Nodup){f:FuncId}{i:aU}(hi:aN P f D=Option.some i){args:List AV}{C:bG}{ci:aC→bz}(hc: ∀ cp,aK P cp→eH P (ci cp))
    (j: ∀ cp,Hits cp l->J (go P C cp (ci cp) 0 [] D n (Bi P i.results i.types) i.code (bW 0 args) [] []) s enc) {b:β} (hb:s=Option.some b):bH P f args (enc b):=
  aw4 hm (FB l) (hc _ (FB l)) hi (j _ (UJ l (hl ▸ hn))) hb
end
section
variable {P:Program} {C:bG} {cp:aC} {ci:bz} {lvl:Nat} {e:Env} {h:Heap}
end
structure Hc {P:Program} {α β:Type} (c:Cm P α β) (cp:aC):Prop where
  ap: ∀ a {b},c.F a=some b->cp c.f (c.ea a)=some (c.e b)
theorem hc{P:Program}{α β:Type}{c:Cm P α β}{cp:aC}(H:NZ cp c.ct):Hc c cp:=⟨λa b h=>c.at H a b h⟩
end Go.Av
