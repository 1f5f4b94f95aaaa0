/- A quiet operation among others. Conditions: none. -/
import Derived.Test.YteafmomjfnlkgaaGreatSg1
set_option linter.unusedVariables false
namespace Go.Av
section
variable {P:Program} {H:Array Obj} {F:Nat->Prop} {h:Heap} {M:Id->Option Nat} {g:Id->Option ax}
theorem atU{e e':Nat→Option AV}{x:Operand}(hs: ∀ t,x= .tmp t→e' t=e t):az e' x=az e x:=by
  cases x with
  |tmp t=>exact hs t rfl
  |_=>rfl
def reads(o:Op):List Tmp:=o.operands.toList.filterMap λ | .tmp t=>some t|_=>none
theorem PM{e e':Nat→Option AV}{o:Op}(hs: ∀ t ∈ reads o,e' t=e t){x:Operand}(hx:x ∈ o.operands):az e' x=az e x:=
  atU λt ht=>hs t (List.mem_filterMap.2 ⟨x,by simpa using hx,by subst ht;rfl⟩)
theorem zJ{α β:Type}{f f':α→Option β}: ∀ {l:List α},(∀ x ∈ l,f' x=f x)→aV f' l=aV f l
  |[],_=>rfl
  | a::l,hf=>by
    have h1:=zJ (l:=l) λx hx=>hf x (List.mem_cons_of_mem _ hx)
    simp only[aV,hf a (by simp),h1]
theorem aj7{α β:Type}{f f':α→Option β}{x:Option α}(hf: ∀ y,x=some y→f' y=f y):oQ f' x=oQ f x:=by
  cases x with
  |none=>rfl
  |some y=>simp only[oQ,hf y rfl]
theorem aFj{e e':Nat→Option AV}{o:Op}(hs: ∀ t ∈ reads o,e' t=e t):aq P e' g o=aq P e g o:=by
  have hop: ∀ x ∈ o.operands,az e' x=az e x:=λx hx=>PM (e:=e) (e':=e') (o:=o) hs hx
  unfold aq
  split <;> simp only[Op.operands,Call.operands]at hop
  · rw[hop _ (by simp)]
  · rw[hop _ (by simp)]
  · rename_i c a b;rw[hop c (by simp),hop a (by simp),hop b (by simp)]
  · rfl
  · rw[hop _ (by simp)]
  · rw[zJ λp hp=>by rw[hop p.2 (by simpa using ⟨p.1,hp⟩)]]
  · rw[zJ λp hp=>by rw[hop p.2 (by simpa using ⟨p.1,hp⟩)]]
  · rw[hop _ (by simp)]
  · rw[hop _ (by simp)]
  · rename_i op t x y yt;rw[hop x (by simp),hop y (by simp)]
  · rw[hop _ (by simp)]
  · rw[hop _ (by simp)]
  · rename_i f fs cs
    rw[zJ (l:=fs) λx hx=>hop x (by simp[hx]),zJ (l:=cs) λx hx=>hop x (by simp[hx])]
  · rename_i t n c;rw[hop n (by simp),hop c (by simp)]
  · rename_i t x lo hi
    rw[hop x (by simp),aj7 (x:=lo) λy hy=>hop y (by subst hy;simp),aj7 (x:=hi) λy hy=>hop y (by subst hy;simp)]
  · rw[hop _ (by simp)]
  · rw[hop _ (by simp)]
  · rename_i t x i;rw[hop x (by simp),hop i (by simp)]
  · rename_i t x i;rw[hop x (by simp),hop i (by simp)]
  · rw[hop _ (by simp)]
  · rename_i b args ts
    rw[zJ (l:=args) λx hx=>hop x (by simp[hx])]
  · rfl
theorem aqj{cp:af}(hk:aK H F h M)(hc:qA g h.get){k:FuncId}{as:List AV}(hx: ∀ x ∈ as,∃ u,VR H F h M x u){r:AV}{fl:List Id}(e:kJ cp g k as=some (r,fl)):kJ cp h.get k as=some (r,fl):=by
  unfold kJ at e ⊢
  simp only[Option.bind_eq_some_iff]at e ⊢
  obtain⟨bs,hbs,r',hr,e⟩:=e
  have hopt: ∀ {l:List AV} {ys:List AV},(∀ x ∈ l,∃ u,VR H F h M x u)→aV (aG g 4) l=some ys→aV (aG h.get 4) l=some ys∧l.map (aO g 4)=l.map (aO h.get 4):=fun {l}=>by
    induction l with
    |nil=>intro ys _ he;exact⟨he,rfl⟩
    | cons a l ih=>
      intro ys hx he
      simp only[aV,Option.bind_eq_some_iff]at he
      obtain⟨b,h1,bs,h2,h3⟩:=he
      obtain⟨u,hu⟩:=hx a (by simp)
      obtain⟨q1,q2⟩:=aKE hk hc 4 a u b hu h1
      obtain⟨q3,q4⟩:=ih (λx hx'=>hx x (by simp[hx'])) h2
      exact⟨by simp only[aV,q1,q3,Option.bind_some];exact h3,by simp only[List.map_cons,q2,q4]⟩
  obtain⟨q1,q2⟩:=hopt hx hbs
  exact⟨bs,q1,r',hr,by rw[← q2];exact e⟩
theorem amf(hk:aK H F h M)(hc:qA g h.get){e e':Nat→Option AV}{a:Act}(he:dW H F h M e' a){o:Op}(hs: ∀ t ∈ reads o,e' t=e t){t:AV}(hq:aq P e g o=some t):aq P e' h.get o=some t:=by
  rw[← aFj (e:=e) (e':=e') hs]at hq
  unfold aq at hq ⊢
  split at hq <;> try (exact hq)
  all_goals simp only[Option.bind_eq_some_iff]at hq ⊢
  · obtain⟨p,hp,hq⟩:=hq;exact⟨p,hp,apL hc (eH he hp) hq⟩
  · obtain⟨y,hy,hq⟩:=hq
    refine⟨y,hy,?_⟩
    split at hq
    · split at hq
      · rename_i hl;rw[if_pos (VK hc (eH he hy) hl)];exact hq
      · cases hq
    · exact hq
    · exact hq
    · cases hq
  · obtain⟨x,hx,l,hl,r,hr,hq⟩:=hq;exact⟨x,hx,l,hl,r,hr,aAK hc (eH he hx) hq⟩
  · obtain⟨x,hx,hq⟩:=hq;exact⟨x,hx,ap3 hc (eH he hx) hq⟩
  · obtain⟨x,hx,y,hy,n,hn,hq⟩:=hq;exact⟨x,hx,y,hy,n,hn,ax9 hc (eH he hx) hq⟩
theorem aa2{C:bn}{cp:af}(hk:aK H F h M)(hc:qA g h.get){e e':Nat→Option AV}{a:Act}(he:dW H F h M e' a){o:Op}(hs: ∀ t ∈ reads o,e' t=e t){t:AV}(hq:bF P C cp e g o=some t):bF P C cp e' h.get o=some t:=by
  have hop: ∀ x ∈ o.operands,az e' x=az e x:=λx hx=>PM (e:=e) (e':=e') (o:=o) hs hx
  unfold bF at hq ⊢
  split at hq
  · rename_i f args ts
    simp only[Op.operands,Call.operands]at hop
    simp only[Option.bind_eq_some_iff,Prod.exists]at hq ⊢
    obtain⟨x,hf,k,fs,cap,hfn,as,has,hq⟩:=hq
    rw[← hop f (by simp)]at hf
    rw[← zJ (l:=args) λx hx=>hop x (by simp[hx])]at has
    refine⟨x,hf,k,fs,cap,hfn,as,has,?_⟩
    split at hq
    · cases hq
    · rename_i hin
      rw[if_neg hin]
      simp only[Option.bind_eq_some_iff,Prod.exists]at hq ⊢
      obtain⟨r,fl,h1,h2⟩:=hq
      have hvr: ∀ x ∈ fs++as++cap,∃ u,VR H F h M x u:=fun z hz=>by
        have hxv:=eH he hf
        unfold rf at hfn
        split at hfn
        · simp only[Option.some.injEq,Prod.mk.injEq]at hfn
          obtain⟨_,rfl,rfl⟩:=hfn
          obtain⟨us,vs,_,l1,x1,l2,x2⟩:=hxv.qy
          obtain⟨l3,x3⟩:=Bj he has
          simp only[List.mem_append]at hz
          rcases hz with(hz|hz)|hz
          · obtain⟨i,hi⟩:=List.getElem?_of_mem hz;obtain⟨u,_,hu⟩:=nM l1 x1 hi;exact⟨u,hu⟩
          · obtain⟨i,hi⟩:=List.getElem?_of_mem hz;obtain⟨u,_,hu⟩:=nM l3 x3 hi;exact⟨u,hu⟩
          · obtain⟨i,hi⟩:=List.getElem?_of_mem hz;obtain⟨u,_,hu⟩:=nM l2 x2 hi;exact⟨u,hu⟩
        · cases hfn
      exact⟨r,fl,aqj hk hc hvr h1,h2⟩
  · rename_i hnc
    by_cases hb:IR o=true/\(C.drops 0).isEmpty=false
    · rw[if_pos hb]at hq ⊢
      obtain⟨t0,h0,h1⟩:=Option.bind_eq_some_iff.1 hq
      exact Option.bind_eq_some_iff.2 ⟨t0,amf hk hc he hs h0,h1⟩
    · rw[if_neg hb]at hq ⊢
      exact amf hk hc he hs hq
def Alike(lvl slot:Nat)(h1 h2:Heap):Prop:= ∀ k,h1.get (lvl,slot,k)=h2.get (lvl,slot,k)
def Others(lvl slot:Nat)(h1 h2:Heap):Prop:= ∀ id:Id,¬ (id.1=lvl/\id.2.1=slot)->h2.get id=h1.get id
theorem Gn{lvl slot k:Nat}{h1 h2 h1':Heap}{b:ax}(ha:Alike lvl slot h1 h2)(e:h1.new (lvl,slot,k) b=some h1'): ∃ h2',h2.new (lvl,slot,k) b=some h2'∧Alike lvl slot h1' h2'∧Others lvl slot h1 h1'∧Others lvl slot h2 h2':=by
  obtain⟨h0,rfl⟩:=xm e
  have h0':h2.get (lvl,slot,k)=none:=(ha k).symm.trans h0
  refine⟨h2.set (lvl,slot,k) b,by simp[Heap.new,h0'],λj=> ?_,λid hn=>jm _ _ _ _ λhe=>hn (by subst he;exact⟨rfl,rfl⟩),λid hn=>jm _ _ _ _ λhe=>hn (by subst he;exact⟨rfl,rfl⟩)⟩
  rw[Ha,Ha]
  split
  · rfl
  · exact ha j
theorem Others.refl(lvl slot:Nat)(h:Heap):Others lvl slot h h:=λ_ _=>rfl
theorem Others.trans{lvl slot:Nat}{h1 h2 h3:Heap}(a:Others lvl slot h1 h2)(b:Others lvl slot h2 h3):Others lvl slot h1 h3:=λid hn=>(b id hn).trans (a id hn)
def amu(lvl slot:Nat)(f:AV→Nat×Heap→Option (AV×Nat×Heap)):Prop:=
  ∀ t k h1 y k' h1' h2,Alike lvl slot h1 h2->f t (k,h1)=some (y,k',h1')-> ∃ h2',f t (k,h2)=some (y,k',h2')/\Alike lvl slot h1' h2'/\Others lvl slot h1 h1'/\Others lvl slot h2 h2'
theorem Rk{lvl slot:Nat}{f:AV→Nat×Heap→Option (AV×Nat×Heap)}(hf:amu lvl slot f): ∀ xs k h1 ys k' h1' h2,Alike lvl slot h1 h2→dP f xs (k,h1)=some (ys,k',h1')→
    ∃ h2',dP f xs (k,h2)=some (ys,k',h2')/\Alike lvl slot h1' h2'/\Others lvl slot h1 h1'/\Others lvl slot h2 h2'
  | [],k,h1,ys,k',h1',h2,ha,e=>by
    simp only[dP,Option.some.injEq,Prod.mk.injEq]at e
    obtain⟨rfl,rfl,rfl⟩:=e
    exact⟨h2,rfl,ha,.refl _ _ _,.refl _ _ _⟩
  | x::xs,k,h1,ys,k',h1',h2,ha,e=>by
    simp only[dP,Option.bind_eq_some_iff,Prod.exists]at e
    obtain⟨y,k1,g1,e1,ys',k2,g2,e2,e3⟩:=e
    simp only[Option.some.injEq,Prod.mk.injEq]at e3
    obtain⟨rfl,rfl,rfl⟩:=e3
    obtain⟨p1,a1,a2,a3,a4⟩:=hf x k h1 y k1 g1 h2 ha e1
    obtain⟨p2,b1,b2,b3,b4⟩:=Rk hf xs k1 g1 ys' k2 g2 p1 a2 e2
    exact⟨p2,by simp only[dP,a1,b1,Option.bind_some],b2,a3.trans b3,a4.trans b4⟩
theorem PW{lvl slot k:Nat}{h1 h2:Heap}(ha:Alike lvl slot h1 h2):jZ h1 lvl slot k=jZ h2 lvl slot k:=by
  have key: ∀ n k,Eu h1 lvl slot n k=Eu h2 lvl slot n k:=by
    intro n
    induction n with
    |zero=>intro k;rfl
    |succ n ih=>intro k;unfold Eu;rw[ha k,ih]
  exact key 8 k
theorem Oo(lvl slot:Nat): ∀ d,amu lvl slot (aT lvl slot d):=by
  intro d
  induction d with
  | zero=>
    intro t k h1 y k' h1' h2 ha e
    cases t with
    | fresh sz n xs=>
      simp only[aT,Option.bind_eq_some_iff,Option.some.injEq,Prod.mk.injEq]at e ⊢
      obtain⟨g,e1,rfl,rfl,rfl⟩:=e
      rw[← PW ha]
      obtain⟨h2',q1,q2,q3,q4⟩:=Gn ha e1
      exact⟨h2',⟨h2',q1,rfl,rfl,rfl⟩,q2,q3,q4⟩
    | freshO sz n xs=>
      simp only[aT,Option.bind_eq_some_iff,Option.some.injEq,Prod.mk.injEq]at e ⊢
      obtain⟨g,e1,rfl,rfl,rfl⟩:=e
      rw[← PW ha]
      obtain⟨h2',q1,q2,q3,q4⟩:=Gn ha e1
      exact⟨h2',⟨h2',q1,rfl,rfl,rfl⟩,q2,q3,q4⟩
    |newbx xs=>simp[aT]at e
    |agg xs=>simp[aT]at e
    |tuple xs=>simp[aT]at e
    | _=>
      simp only[aT,Option.some.injEq,Prod.mk.injEq]at e ⊢
      obtain⟨rfl,rfl,rfl⟩:=e
      exact⟨h2,⟨rfl,rfl,rfl⟩,ha,.refl _ _ _,.refl _ _ _⟩
  | succ d ih=>
    intro t k h1 y k' h1' h2 ha e
    cases t with
    | fresh sz n xs=>
      simp only[aT,Option.bind_eq_some_iff,Option.some.injEq,Prod.mk.injEq]at e ⊢
      obtain⟨g,e1,rfl,rfl,rfl⟩:=e
      rw[← PW ha]
      obtain⟨h2',q1,q2,q3,q4⟩:=Gn ha e1
      exact⟨h2',⟨h2',q1,rfl,rfl,rfl⟩,q2,q3,q4⟩
    | freshO sz n xs=>
      simp only[aT,Option.bind_eq_some_iff,Option.some.injEq,Prod.mk.injEq]at e ⊢
      obtain⟨g,e1,rfl,rfl,rfl⟩:=e
      rw[← PW ha]
      obtain⟨h2',q1,q2,q3,q4⟩:=Gn ha e1
      exact⟨h2',⟨h2',q1,rfl,rfl,rfl⟩,q2,q3,q4⟩
    | newbx xs=>
      simp only[aT,Option.bind_eq_some_iff,Prod.exists,Option.some.injEq,Prod.mk.injEq]at e
      obtain⟨ys,k1,g1,e1,g2,e2,rfl,rfl,rfl⟩:=e
      obtain⟨p1,a1,a2,a3,a4⟩:=Rk ih xs k h1 ys k1 g1 h2 ha e1
      obtain⟨p2,b1,b2,b3,b4⟩:=Gn a2 e2
      exact⟨p2,by simp only[aT,a1,b1,Option.bind_some],b2,a3.trans b3,a4.trans b4⟩
    | agg xs=>
      simp only[aT,Option.bind_eq_some_iff,Prod.exists,Option.some.injEq,Prod.mk.injEq]at e
      obtain⟨ys,k1,g1,e1,rfl,rfl,rfl⟩:=e
      obtain⟨p1,a1,a2,a3,a4⟩:=Rk ih xs k h1 ys k1 g1 h2 ha e1
      exact⟨p1,by simp only[aT,a1,Option.bind_some],a2,a3,a4⟩
    | tuple xs=>
      simp only[aT,Option.bind_eq_some_iff,Prod.exists,Option.some.injEq,Prod.mk.injEq]at e
      obtain⟨ys,k1,g1,e1,rfl,rfl,rfl⟩:=e
      obtain⟨p1,a1,a2,a3,a4⟩:=Rk ih xs k h1 ys k1 g1 h2 ha e1
      exact⟨p1,by simp only[aT,a1,Option.bind_some],a2,a3,a4⟩
    | _=>
      simp only[aT,Option.some.injEq,Prod.mk.injEq]at e ⊢
      obtain⟨rfl,rfl,rfl⟩:=e
      exact⟨h2,⟨rfl,rfl,rfl⟩,ha,.refl _ _ _,.refl _ _ _⟩
end
end Go.Av
