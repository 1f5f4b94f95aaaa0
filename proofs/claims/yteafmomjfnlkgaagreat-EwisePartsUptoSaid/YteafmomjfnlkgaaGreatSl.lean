/- A result whose rows are not written any more. Conditions: those that each names. -/
import Derived.Test.YteafmomjfnlkgaaGreatMi
set_option linter.unusedVariables false
set_option linter.defProp false
namespace Go.Av
def eF:Nat→AV→Option AV
  |_,.v x=>some (.v x)
  |_,.arr n xs=>some (.arr n xs)
  |_,.fresh _ n xs=>if n=0/\xs.isEmpty=true then some (.arr 0 [])else some (.arr n xs)
  |d+1,.agg xs=>(aV (eF d) xs).bind λys=>some (.agg ys)
  |d+1,.tuple xs=>(aV (eF d) xs).bind λys=>some (.tuple ys)
  |_,_=>none
theorem aaR{α β:Type}{f:α→Option β}: ∀ {xs:List α} {ys:List β},aV f xs=some ys→xs.length=ys.length∧ ∀ (i:Nat) y,ys[i]? =some y→ ∃ x,xs[i]? =some x∧f x=some y
  |[],ys,h=>by simp only[aV,Option.some.injEq]at h;subst h;exact⟨rfl,λi y h=>by simp at h⟩
  | x::xs,ys,h=>by
    simp only[aV,Option.bind_eq_some_iff,Option.some.injEq]at h
    obtain⟨y,hy,zs,hz,rfl⟩:=h
    obtain⟨h1,h2⟩:=aaR hz
    refine⟨by simp[h1],λi z hi=> ?_⟩
    cases i with
    |zero=>simp only[List.getElem?_cons_zero,Option.some.injEq]at hi;subst hi;exact⟨x,by simp,hy⟩
    |succ i=>obtain⟨w,a,b⟩:=h2 i z (by simpa using hi);exact⟨w,by simpa using a,b⟩
theorem CO{H:Array Obj}{F:Nat→Prop}: ∀ d x u y,VC H F x u→eF d x=some y→VC H F y u:=by
  intro d
  induction d with
  | zero=>
    intro x u y hv e
    cases hv <;> simp[eF]at e <;> subst e
    · exact .v
    · exact .ed
    · rename_i hc hF hr hl hx;exact .arr hc hF hr hl hx
  | succ d ih=>
    intro x u y hv e
    cases hv with
    |v=>simp only[eF,Option.some.injEq]at e;subst e;exact .v
    |ed=>simp only[eF,Option.some.injEq]at e;subst e;exact .ed
    |arr hc hF hr hl hx=>simp only[eF,Option.some.injEq]at e;subst e;exact .arr hc hF hr hl hx
    |aF=>simp[eF]at e
    |fn=>simp[eF]at e
    | agg hl hx=>
      simp only[eF,Option.bind_eq_some_iff,Option.some.injEq]at e
      obtain⟨ys,hys,rfl⟩:=e
      obtain⟨a,b⟩:=aaR hys
      exact .agg (by omega) λi y u hy hu=>let ⟨x,h1,h2⟩:=b i y hy;ih x u y (hx i x u h1 hu) h2
    | tuple hl hx=>
      simp only[eF,Option.bind_eq_some_iff,Option.some.injEq]at e
      obtain⟨ys,hys,rfl⟩:=e
      obtain⟨a,b⟩:=aaR hys
      exact .tuple (by omega) λi y u hy hu=>let ⟨x,h1,h2⟩:=b i y hy;ih x u y (hx i x u h1 hu) h2
theorem aIv{H:Array Obj}{F F':Nat→Prop}(hF: ∀ b,F b→F' b): ∀ d x u bs y,TR H (VC H F) (VC H F) x u bs→(∀ b ∈ bs,F' b)→eF d x=some y→VC H F' y u:=by
  intro d
  have fr : ∀ {sz n:Nat} {xs:List AV} {u:Value} {bs:List Nat} {y:AV},TR H (VC H F) (VC H F) (.fresh sz n xs) u bs→(∀ b ∈ bs,F' b)→(if n=0∧xs.isEmpty=true then some (AV.arr 0 [])else some (.arr n xs))=some y→VC H F' y u:=fun {sz n xs u bs y} h hb e=>by
    cases h with
    |base h=>cases h
    |nil=>rw[if_pos ⟨rfl,rfl⟩]at e;injection e with e;subst e;exact .ed
    | @fresh _ _ _ b cur e' c hc1 hc hs hl hx=>
      by_cases h0:n=0/\xs.isEmpty=true
      · rw[if_pos h0]at e;injection e with e;subst e
        obtain⟨rfl,_⟩:=h0
        exact .ed
      · rw [if_neg h0]at e;injection e with e;subst e
        have hn:n*sz<=c*sz:=Nat.mul_le_mul_right _ hc
        refine .arr (us:=cur.toList.take (n*sz)) hc (hb b (by simp)) ⟨cur,e',(0,0),hc1,λi u hi=> ?_⟩ (by rw[List.length_take];simp;omega) λi x u hxi hui=> ?_
        · rw[List.getElem?_take]at hi
          split at hi
          · simpa using hi
          · cases hi
        · obtain⟨v,h1,h2⟩:=hx i x hxi
          rw[List.getElem?_take]at hui
          split at hui
          · have:cur[i]? =some u:=by simpa using hui
            rw[this]at h1
            injection h1 with h1
            subst h1
            exact h2.grow hF
          · cases hui
  have lst: ∀ {d:Nat},(∀ x u bs y,TR H (VC H F) (VC H F) x u bs→(∀ b ∈ bs,F' b)→eF d x=some y→VC H F' y u)→ ∀ {xs:List AV} {us:List Value} {bs:List Nat} {ys:List AV},dD H (VC H F) (VC H F) xs us bs→(∀ b ∈ bs,F' b)→aV (eF d) xs=some ys→
      ys.length=us.length/\ ∀ (i:Nat) y u,ys[i]? =some y->us[i]? =some u->VC H F' y u:=λ {d} ih xs=>by
    induction xs with
    |nil=>intro us bs ys h hb e;cases h;simp only[aV,Option.some.injEq]at e;subst e;exact⟨rfl,λi y u h=>by simp at h⟩
    | cons x xs ihx=>
      intro us bs ys h hb e
      cases h with
      | cons h1 h2=>
        simp only[aV,Option.bind_eq_some_iff,Option.some.injEq]at e
        obtain⟨y,hy,zs,hz,rfl⟩:=e
        obtain⟨a,b⟩:=ihx h2 (λb hb'=>hb b (by simp[hb'])) hz
        refine⟨by simp[a],λi y' u' hi hu=> ?_⟩
        cases i with
        | zero=>
          simp only[List.getElem?_cons_zero,Option.some.injEq]at hi hu
          subst hi;subst hu
          exact ih _ _ _ _ h1 (λb hb'=>hb b (by simp[hb'])) hy
        |succ i=>exact b i y' u' (by simpa using hi) (by simpa using hu)
  induction d with
  | zero=>
    intro x u bs y h hb e
    cases x with
    |v x=>cases h with|base h=>exact CO 0 _ _ _ (h.grow hF) e
    |arr n xs=>cases h with|base h=>exact CO 0 _ _ _ (h.grow hF) e
    |fresh sz n xs=>simp only[eF]at e;exact fr h hb e
    |_=>simp[eF]at e
  | succ d ih=>
    intro x u bs y h hb e
    cases x with
    |v x=>cases h with|base h=>exact CO (d+1) _ _ _ (h.grow hF) e
    |arr n xs=>cases h with|base h=>exact CO (d+1) _ _ _ (h.grow hF) e
    |fresh sz n xs=>simp only[eF]at e;exact fr h hb e
    | agg xs=>
      cases h with
      |base h=>exact CO (d+1) _ _ _ (h.grow hF) e
      | agg hx=>
        simp only[eF,Option.bind_eq_some_iff,Option.some.injEq]at e
        obtain⟨ys,hys,rfl⟩:=e
        obtain⟨a,b⟩:=lst ih hx hb hys
        exact .agg a b
    | tuple xs=>
      cases h with
      |base h=>exact CO (d+1) _ _ _ (h.grow hF) e
      | tuple hx=>
        simp only[eF,Option.bind_eq_some_iff,Option.some.injEq]at e
        obtain⟨ys,hys,rfl⟩:=e
        obtain⟨a,b⟩:=lst ih hx hb hys
        exact .tuple a b
    |_=>simp[eF]at e
theorem aA.al6{P:Program}{f:FuncId}{args:List AV}{r y:AV}(h:aA P f args r)(hs:eF 4 r=some y):aA P f args y:=by
  refine⟨h.1,λw F us hF hl hx=>(h.2 w F us hF hl hx).mono ?_⟩
  rintro e w' ⟨u,F',bs,he,hg,f1,f2,f3,ht,hnd,hb⟩
  refine⟨u,λb=>F' b∨b ∈ bs,[],he,hg,λb hF=> .inl (f1 b hF),λb hF=>hF.elim (f2 b) λh=>(hb b h).2.1,λb hF hlt=>hF.elim (λh=>f3 b h hlt) λh=> ?_,.base (aIv (λb h=> .inl h) 4 r u bs y ht (λb h=> .inr h) hs),.nil,λb h=>by cases h⟩
  have:=(hb b h).1
  omega
section
variable {P:Program} {C:bn} {cp:af} {ci:bg} {n d:Nat} {D:List (Nat×List Nat)} {e:Env} {h:Heap} {α β:Type} {s:Option β} {enc:β->AV}
def qI(P:Program)(rs:List ResultVar)(ts:List TypeId):KK:=fun y e h=>match y with
  | .exit _=>none
  |_=>(yx P ⟨.skip,rs,ts⟩ e h).bind (eF 4)
theorem ase{rs ts}:qI P rs ts .ret e h=(yx P ⟨.skip,rs,ts⟩ e h).bind (eF 4):=rfl
theorem axK{rs ts}:qI P rs ts .normal e h=(yx P ⟨.skip,rs,ts⟩ e h).bind (eF 4):=rfl
theorem anE{x}:eF d (.v x)=some (.v x):=by cases d <;> rfl
theorem apT{m xs}:eF d (.arr m xs)=some (.arr m xs):=by cases d <;> rfl
theorem as4{f:α→AV}{sz:Nat}{l:List α}:eF d (.fresh sz l.length (lm f l))=some (.arr l.length (lm f l)):=by
  cases l with
  |nil=>cases d <;> rfl
  |cons x l=>cases d <;> simp[eF]
theorem aLi{c:α→List AV}{sz:Nat}{l:List α}:eF d (.fresh sz l.length (fm c l))=some (.arr l.length (fm c l)):=by
  cases l with
  |nil=>cases d <;> rfl
  |cons x l=>cases d <;> simp[eF]
theorem aqX{sz:Nat}:eF d (.fresh sz 0 [])=some (.arr 0 []):=by cases d <;> rfl
theorem azi{sz m:Nat}{x:AV}{xs:List AV}:eF d (.fresh sz m (x::xs))=some (.arr m (x::xs)):=by cases d <;> simp[eF]
theorem aMa{xs}:eF (d+1) (.agg xs)=(aV (eF d) xs).bind λys=>some (.agg ys):=rfl
theorem aIo{xs}:eF (d+1) (.tuple xs)=(aV (eF d) xs).bind λys=>some (.tuple ys):=rfl
def SE:=And.intro @ase<|And.intro @axK<|And.intro @anE<|And.intro @apT<|And.intro @as4<|And.intro @aLi<|And.intro @aqX<|And.intro @azi<|And.intro @aMa<| @aIo
theorem arp(hm:P.follows .mixedOrders=true)(hcp:aJ P cp)(hci:dU P ci){f:FuncId}{i:aW}(hi:au P f D=some i){args:List AV}
    (j:J (go P C cp ci 0 [] D n (qI P i.results i.types) i.code (ay 0 args) [] []) s enc) {b:β} (hb:s=some b):aA P f args (enc b):=by
  have:=j b hb
  unfold go at this
  cases hx:exec P C cp ci 0 [] D n i.code (ay 0 args) []with
  |none=>rw[hx]at this;cases this
  | some r=>
    rw[hx]at this
    rcases r with⟨y,e,h⟩
    have hy:(yx P ⟨.skip,i.results,i.types⟩ e h).bind (eF 4)=some (enc b):=by cases y <;> first|exact this|cases this
    obtain⟨r0,h0,h1⟩:=Option.bind_eq_some_iff.1 hy
    refine(bJ hm (C:=C) hcp hci (n:=n) hi (r:=r0) ?_).al6 h1
    unfold bI
    rw[hx]
    cases y <;> first|exact h0|cases this
end
end Go.Av
