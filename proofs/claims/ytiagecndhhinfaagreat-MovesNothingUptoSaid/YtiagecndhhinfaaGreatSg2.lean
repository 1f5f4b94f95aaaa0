/- A quiet operation among others. Conditions: none. -/
import Derived.Test.YtiagecndhhinfaaGreatSg1
set_option linter.unusedVariables false
namespace Go.Av
section
variable {P:Program} {H:Array Obj} {F:Nat->Prop} {h:Heap} {M:Id->Option Nat} {g:Id->Option ak}
theorem av2{e e':Nat→Option AV}{x:Operand}(hs: ∀ t,x= .tmp t→e' t=e t):aB e' x=aB e x:=by
  cases x with
  |tmp t=>exact hs t rfl
  |_=>rfl
def reads(o:Op):List Tmp:=o.operands.toList.filterMap λ | .tmp t=>some t|_=>none
theorem MC{e e':Nat→Option AV}{o:Op}(hs: ∀ t ∈ reads o,e' t=e t){x:Operand}(hx:x ∈ o.operands):aB e' x=aB e x:=
  av2 λt ht=>hs t (List.mem_filterMap.2 ⟨x,by simpa using hx,by subst ht;rfl⟩)
theorem zF{α β:Type}{f f':α→Option β}: ∀ {l:List α},(∀ x ∈ l,f' x=f x)→aZ f' l=aZ f l
  |[],_=>rfl
  | a::l,hf=>by
    have h1:=zF (l:=l) λx hx=>hf x (List.mem_cons_of_mem _ hx)
    simp only[aZ,hf a (by simp),h1]
theorem abI{α β:Type}{f f':α→Option β}{x:Option α}(hf: ∀ y,x=some y→f' y=f y):qf f' x=qf f x:=by
  cases x with
  |none=>rfl
  |some y=>simp only[qf,hf y rfl]
theorem ahc{e e':Nat→Option AV}{o:Op}(hs: ∀ t ∈ reads o,e' t=e t):aq P e' g o=aq P e g o:=by
  have hop: ∀ x ∈ o.operands,aB e' x=aB e x:=λx hx=>MC (e:=e) (e':=e') (o:=o) hs hx
  unfold aq
  split <;> simp only[Op.operands,Call.operands]at hop
  · rw[hop _ (by simp)]
  · rw[hop _ (by simp)]
  · rename_i c a b;rw[hop c (by simp),hop a (by simp),hop b (by simp)]
  · rfl
  · rw[hop _ (by simp)]
  · rw[zF λp hp=>by rw[hop p.2 (by simpa using ⟨p.1,hp⟩)]]
  · rw[zF λp hp=>by rw[hop p.2 (by simpa using ⟨p.1,hp⟩)]]
  · rw[hop _ (by simp)]
  · rw[hop _ (by simp)]
  · rename_i op t x y yt;rw[hop x (by simp),hop y (by simp)]
  · rw[hop _ (by simp)]
  · rw[hop _ (by simp)]
  · rename_i f fs cs
    rw[zF (l:=fs) λx hx=>hop x (by simp[hx]),zF (l:=cs) λx hx=>hop x (by simp[hx])]
  · rename_i t n c;rw[hop n (by simp),hop c (by simp)]
  · rename_i t x lo hi
    rw[hop x (by simp),abI (x:=lo) λy hy=>hop y (by subst hy;simp),abI (x:=hi) λy hy=>hop y (by subst hy;simp)]
  · rw[hop _ (by simp)]
  · rw[hop _ (by simp)]
  · rename_i t x i;rw[hop x (by simp),hop i (by simp)]
  · rename_i t x i;rw[hop x (by simp),hop i (by simp)]
  · rw[hop _ (by simp)]
  · rename_i b args ts
    rw[zF (l:=args) λx hx=>hop x (by simp[hx])]
  · rfl
theorem aey{cp:aC}(hk:aQ H F h M)(hc:ql g h.get){k:FuncId}{as:List AV}(hx: ∀ x ∈ as,∃ u,VR H F h M x u){r:AV}{fl:List Id}(e:mr cp g k as=some (r,fl)):mr cp h.get k as=some (r,fl):=by
  unfold mr at e ⊢
  simp only[aA]at e ⊢
  obtain⟨bs,hbs,r',hr,e⟩:=e
  have hopt: ∀ {l:List AV} {ys:List AV},(∀ x ∈ l,∃ u,VR H F h M x u)→aZ (aG g 4) l=some ys→aZ (aG h.get 4) l=some ys∧l.map (aW g 4)=l.map (aW h.get 4):=fun {l}=>by
    induction l with
    |nil=>intro ys _ he;exact⟨he,rfl⟩
    | cons a l ih=>
      intro ys hx he
      simp only[aZ,aA]at he
      obtain⟨b,h1,bs,h2,h3⟩:=he
      obtain⟨u,hu⟩:=hx a (by simp)
      obtain⟨q1,q2⟩:=amS hk hc 4 a u b hu h1
      obtain⟨q3,q4⟩:=ih (λx hx'=>hx x (by simp[hx'])) h2
      exact⟨by simp only[aZ,q1,q3,Option.bind_some];exact h3,by simp only[List.map_cons,q2,q4]⟩
  obtain⟨q1,q2⟩:=hopt hx hbs
  exact⟨bs,q1,r',hr,by rw[← q2];exact e⟩
theorem VG(hk:aQ H F h M)(hc:ql g h.get){e e':Nat→Option AV}{a:Act}(he:fK H F h M e' a){o:Op}(hs: ∀ t ∈ reads o,e' t=e t){t:AV}(hq:aq P e g o=some t):aq P e' h.get o=some t:=by
  rw[← ahc (e:=e) (e':=e') hs]at hq
  unfold aq at hq ⊢
  split at hq <;> try (exact hq)
  all_goals simp only[aA]at hq ⊢
  · obtain⟨p,hp,hq⟩:=hq;exact⟨p,hp,ae8 hc (gV he hp) hq⟩
  · obtain⟨y,hy,hq⟩:=hq
    refine⟨y,hy,?_⟩
    split at hq
    · split at hq
      · rename_i hl;rw[if_pos (TE hc (gV he hy) hl)];exact hq
      · cases hq
    · exact hq
    · exact hq
    · cases hq
  · obtain⟨x,hx,l,hl,r,hr,hq⟩:=hq;exact⟨x,hx,l,hl,r,hr,ahm hc (gV he hx) hq⟩
  · obtain⟨x,hx,hq⟩:=hq;exact⟨x,hx,aeG hc (gV he hx) hq⟩
  · obtain⟨x,hx,y,hy,n,hn,hq⟩:=hq;exact⟨x,hx,y,hy,n,hn,aeL hc (gV he hx) hq⟩
theorem O7{C:bG}{cp:aC}(hk:aQ H F h M)(hc:ql g h.get){e e':Nat→Option AV}{a:Act}(he:fK H F h M e' a){o:Op}(hs: ∀ t ∈ reads o,e' t=e t){t:AV}(hq:bZ P C cp e g o=some t):bZ P C cp e' h.get o=some t:=by
  have hop: ∀ x ∈ o.operands,aB e' x=aB e x:=λx hx=>MC (e:=e) (e':=e') (o:=o) hs hx
  unfold bZ at hq ⊢
  split at hq
  · rename_i f args ts
    simp only[Op.operands,Call.operands]at hop
    simp only[aA,Prod.exists]at hq ⊢
    obtain⟨x,hf,k,fs,cap,hfn,as,has,hq⟩:=hq
    rw[← hop f (by simp)]at hf
    rw[← zF (l:=args) λx hx=>hop x (by simp[hx])]at has
    refine⟨x,hf,k,fs,cap,hfn,as,has,?_⟩
    split at hq
    · cases hq
    · rename_i hin
      rw[if_neg hin]
      simp only[aA,Prod.exists]at hq ⊢
      obtain⟨r,fl,h1,h2⟩:=hq
      have hvr: ∀ x ∈ fs++as++cap,∃ u,VR H F h M x u:=fun z hz=>by
        have hxv:=gV he hf
        unfold qX at hfn
        split at hfn
        · simp only[aH,Prod.mk.injEq]at hfn
          obtain⟨_,rfl,rfl⟩:=hfn
          obtain⟨us,vs,_,l1,x1,l2,x2⟩:=hxv.qA
          obtain⟨l3,x3⟩:=zC he has
          simp only[List.mem_append]at hz
          rcases hz with(hz|hz)|hz
          · obtain⟨i,hi⟩:=List.getElem?_of_mem hz;obtain⟨u,_,hu⟩:=oK l1 x1 hi;exact⟨u,hu⟩
          · obtain⟨i,hi⟩:=List.getElem?_of_mem hz;obtain⟨u,_,hu⟩:=oK l3 x3 hi;exact⟨u,hu⟩
          · obtain⟨i,hi⟩:=List.getElem?_of_mem hz;obtain⟨u,_,hu⟩:=oK l2 x2 hi;exact⟨u,hu⟩
        · cases hfn
      exact⟨r,fl,aey hk hc hvr h1,h2⟩
  · rename_i hnc
    by_cases hb:DW o=true/\(C.drops 0).isEmpty=false
    · rw[if_pos hb]at hq ⊢
      obtain⟨t0,h0,h1⟩:=aA.1 hq
      exact aA.2 ⟨t0,VG hk hc he hs h0,h1⟩
    · rw[if_neg hb]at hq ⊢
      exact VG hk hc he hs hq
def Alike(lvl slot:Nat)(h1 h2:Heap):Prop:= ∀ k,h1.get (lvl,slot,k)=h2.get (lvl,slot,k)
def Others(lvl slot:Nat)(h1 h2:Heap):Prop:= ∀ id:Id,¬ (id.1=lvl/\id.2.1=slot)->h2.get id=h1.get id
theorem EQ{lvl slot k:Nat}{h1 h2 h1':Heap}{b:ak}(ha:Alike lvl slot h1 h2)(e:h1.new (lvl,slot,k) b=some h1'): ∃ h2',h2.new (lvl,slot,k) b=some h2'∧Alike lvl slot h1' h2'∧Others lvl slot h1 h1'∧Others lvl slot h2 h2':=by
  obtain⟨h0,rfl⟩:=vK e
  have h0':h2.get (lvl,slot,k)=none:=(ha k).symm.trans h0
  refine⟨h2.set (lvl,slot,k) b,by simp[Heap.new,h0'],λj=> ?_,λid hn=>jU _ _ _ _ λhe=>hn (by subst he;exact⟨rfl,rfl⟩),λid hn=>jU _ _ _ _ λhe=>hn (by subst he;exact⟨rfl,rfl⟩)⟩
  rw[En,En]
  split
  · rfl
  · exact ha j
theorem Others.refl(lvl slot:Nat)(h:Heap):Others lvl slot h h:=λ_ _=>rfl
theorem Others.trans{lvl slot:Nat}{h1 h2 h3:Heap}(a:Others lvl slot h1 h2)(b:Others lvl slot h2 h3):Others lvl slot h1 h3:=λid hn=>(b id hn).trans (a id hn)
def Vf(lvl slot:Nat)(f:AV→Nat×Heap→Option (AV×Nat×Heap)):Prop:=
  ∀ t k h1 y k' h1' h2,Alike lvl slot h1 h2->f t (k,h1)=some (y,k',h1')-> ∃ h2',f t (k,h2)=some (y,k',h2')/\Alike lvl slot h1' h2'/\Others lvl slot h1 h1'/\Others lvl slot h2 h2'
theorem LW{lvl slot:Nat}{f:AV→Nat×Heap→Option (AV×Nat×Heap)}(hf:Vf lvl slot f): ∀ xs k h1 ys k' h1' h2,Alike lvl slot h1 h2→fE f xs (k,h1)=some (ys,k',h1')→
    ∃ h2',fE f xs (k,h2)=some (ys,k',h2')/\Alike lvl slot h1' h2'/\Others lvl slot h1 h1'/\Others lvl slot h2 h2'
  | [],k,h1,ys,k',h1',h2,ha,e=>by
    simp only[fE,aH,Prod.mk.injEq]at e
    obtain⟨rfl,rfl,rfl⟩:=e
    exact⟨h2,rfl,ha,.refl _ _ _,.refl _ _ _⟩
  | x::xs,k,h1,ys,k',h1',h2,ha,e=>by
    simp only[fE,aA,Prod.exists]at e
    obtain⟨y,k1,g1,e1,ys',k2,g2,e2,e3⟩:=e
    simp only[aH,Prod.mk.injEq]at e3
    obtain⟨rfl,rfl,rfl⟩:=e3
    obtain⟨p1,a1,a2,a3,a4⟩:=hf x k h1 y k1 g1 h2 ha e1
    obtain⟨p2,b1,b2,b3,b4⟩:=LW hf xs k1 g1 ys' k2 g2 p1 a2 e2
    exact⟨p2,by simp only[fE,a1,b1,Option.bind_some],b2,a3.trans b3,a4.trans b4⟩
theorem KJ{lvl slot k:Nat}{h1 h2:Heap}(ha:Alike lvl slot h1 h2):lC h1 lvl slot k=lC h2 lvl slot k:=by
  have key: ∀ n k,nR h1 lvl slot n k=nR h2 lvl slot n k:=by
    intro n
    induction n with
    |zero=>intro k;rfl
    |succ n ih=>intro k;unfold nR;rw[ha k,ih]
  exact key 8 k
theorem Lj(lvl slot:Nat): ∀ d,Vf lvl slot (bC lvl slot d):=by
  intro d
  induction d with
  | zero=>
    intro t k h1 y k' h1' h2 ha e
    cases t with
    | fresh sz n xs=>
      simp only[bC,aA,aH,Prod.mk.injEq]at e ⊢
      obtain⟨g,e1,rfl,rfl,rfl⟩:=e
      rw[← KJ ha]
      obtain⟨h2',q1,q2,q3,q4⟩:=EQ ha e1
      exact⟨h2',⟨h2',q1,rfl,rfl,rfl⟩,q2,q3,q4⟩
    | freshO sz n xs=>
      simp only[bC,aA,aH,Prod.mk.injEq]at e ⊢
      obtain⟨g,e1,rfl,rfl,rfl⟩:=e
      rw[← KJ ha]
      obtain⟨h2',q1,q2,q3,q4⟩:=EQ ha e1
      exact⟨h2',⟨h2',q1,rfl,rfl,rfl⟩,q2,q3,q4⟩
    |newbx xs=>simp[bC]at e
    |agg xs=>simp[bC]at e
    |tuple xs=>simp[bC]at e
    | _=>
      simp only[bC,aH,Prod.mk.injEq]at e ⊢
      obtain⟨rfl,rfl,rfl⟩:=e
      exact⟨h2,⟨rfl,rfl,rfl⟩,ha,.refl _ _ _,.refl _ _ _⟩
  | succ d ih=>
    intro t k h1 y k' h1' h2 ha e
    cases t with
    | fresh sz n xs=>
      simp only[bC,aA,aH,Prod.mk.injEq]at e ⊢
      obtain⟨g,e1,rfl,rfl,rfl⟩:=e
      rw[← KJ ha]
      obtain⟨h2',q1,q2,q3,q4⟩:=EQ ha e1
      exact⟨h2',⟨h2',q1,rfl,rfl,rfl⟩,q2,q3,q4⟩
    | freshO sz n xs=>
      simp only[bC,aA,aH,Prod.mk.injEq]at e ⊢
      obtain⟨g,e1,rfl,rfl,rfl⟩:=e
      rw[← KJ ha]
      obtain⟨h2',q1,q2,q3,q4⟩:=EQ ha e1
      exact⟨h2',⟨h2',q1,rfl,rfl,rfl⟩,q2,q3,q4⟩
    | newbx xs=>
      simp only[bC,aA,Prod.exists,aH,Prod.mk.injEq]at e
      obtain⟨ys,k1,g1,e1,g2,e2,rfl,rfl,rfl⟩:=e
      obtain⟨p1,a1,a2,a3,a4⟩:=LW ih xs k h1 ys k1 g1 h2 ha e1
      obtain⟨p2,b1,b2,b3,b4⟩:=EQ a2 e2
      exact⟨p2,by simp only[bC,a1,b1,Option.bind_some],b2,a3.trans b3,a4.trans b4⟩
    | agg xs=>
      simp only[bC,aA,Prod.exists,aH,Prod.mk.injEq]at e
      obtain⟨ys,k1,g1,e1,rfl,rfl,rfl⟩:=e
      obtain⟨p1,a1,a2,a3,a4⟩:=LW ih xs k h1 ys k1 g1 h2 ha e1
      exact⟨p1,by simp only[bC,a1,Option.bind_some],a2,a3,a4⟩
    | tuple xs=>
      simp only[bC,aA,Prod.exists,aH,Prod.mk.injEq]at e
      obtain⟨ys,k1,g1,e1,rfl,rfl,rfl⟩:=e
      obtain⟨p1,a1,a2,a3,a4⟩:=LW ih xs k h1 ys k1 g1 h2 ha e1
      exact⟨p1,by simp only[bC,a1,Option.bind_some],a2,a3,a4⟩
    | _=>
      simp only[bC,aH,Prod.mk.injEq]at e ⊢
      obtain⟨rfl,rfl,rfl⟩:=e
      exact⟨h2,⟨rfl,rfl,rfl⟩,ha,.refl _ _ _,.refl _ _ _⟩
end
end Go.Av
