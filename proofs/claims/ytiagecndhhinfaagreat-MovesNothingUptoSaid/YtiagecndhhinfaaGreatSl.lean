/- A result whose rows are not written any more. Conditions: those that each names. -/
import Derived.Test.YtiagecndhhinfaaGreatMi
set_option linter.unusedVariables false
set_option linter.defProp false
namespace Go.Av
def fP:Nat→AV→Option AV
  |_,.v x=>some (.v x)
  |_,.arr n xs=>some (.arr n xs)
  |_,.fresh _ n xs=>if n=0/\xs.isEmpty=true then some (.arr 0 [])else some (.arr n xs)
  |d+1,.agg xs=>(aZ (fP d) xs).bind λys=>some (.agg ys)
  |d+1,.tuple xs=>(aZ (fP d) xs).bind λys=>some (.tuple ys)
  |_,_=>none
theorem Ue{α β:Type}{f:α→Option β}: ∀ {xs:List α} {ys:List β},aZ f xs=some ys→xs.length=ys.length∧ ∀ (i:Nat) y,ys[i]? =some y→ ∃ x,xs[i]? =some x∧f x=some y
  |[],ys,h=>by simp only[aZ,aH]at h;subst h;exact⟨rfl,λi y h=>by simp at h⟩
  | x::xs,ys,h=>by
    simp only[aZ,aA,aH]at h
    obtain⟨y,hy,zs,hz,rfl⟩:=h
    obtain⟨h1,h2⟩:=Ue hz
    refine⟨by simp[h1],λi z hi=> ?_⟩
    cases i with
    |zero=>simp only[List.getElem?_cons_zero,aH]at hi;subst hi;exact⟨x,by simp,hy⟩
    |succ i=>obtain⟨w,a,b⟩:=h2 i z (by simpa using hi);exact⟨w,by simpa using a,b⟩
theorem CB{H:Array Obj}{F:Nat→Prop}: ∀ d x u y,VC H F x u→fP d x=some y→VC H F y u:=by
  intro d
  induction d with
  | zero=>
    intro x u y hv e
    cases hv <;> simp[fP]at e <;> subst e
    · exact .v
    · exact .gB
    · rename_i hc hF hr hl hx;exact .arr hc hF hr hl hx
  | succ d ih=>
    intro x u y hv e
    cases hv with
    |v=>simp only[fP,aH]at e;subst e;exact .v
    |gB=>simp only[fP,aH]at e;subst e;exact .gB
    |arr hc hF hr hl hx=>simp only[fP,aH]at e;subst e;exact .arr hc hF hr hl hx
    |ay=>simp[fP]at e
    |fn=>simp[fP]at e
    | agg hl hx=>
      simp only[fP,aA,aH]at e
      obtain⟨ys,hys,rfl⟩:=e
      obtain⟨a,b⟩:=Ue hys
      exact .agg ae λi y u hy hu=>let ⟨x,h1,h2⟩:=b i y hy;ih x u y (hx i x u h1 hu) h2
    | tuple hl hx=>
      simp only[fP,aA,aH]at e
      obtain⟨ys,hys,rfl⟩:=e
      obtain⟨a,b⟩:=Ue hys
      exact .tuple ae λi y u hy hu=>let ⟨x,h1,h2⟩:=b i y hy;ih x u y (hx i x u h1 hu) h2
theorem ayA{H:Array Obj}{F F':Nat→Prop}(hF: ∀ b,F b→F' b): ∀ d x u bs y,TR H (VC H F) (VC H F) x u bs→(∀ b ∈ bs,F' b)→fP d x=some y→VC H F' y u:=by
  intro d
  have fr : ∀ {sz n:Nat} {xs:List AV} {u:Value} {bs:List Nat} {y:AV},TR H (VC H F) (VC H F) (.fresh sz n xs) u bs→(∀ b ∈ bs,F' b)→(if n=0∧xs.isEmpty=true then some (AV.arr 0 [])else some (.arr n xs))=some y→VC H F' y u:=fun {sz n xs u bs y} h hb e=>by
    cases h with
    |base h=>cases h
    |nil=>rw[if_pos ⟨rfl,rfl⟩]at e;injection e with e;subst e;exact .gB
    | @fresh _ _ _ b cur e' c hc1 hc hs hl hx=>
      by_cases h0:n=0/\xs.isEmpty=true
      · rw[if_pos h0]at e;injection e with e;subst e
        obtain⟨rfl,_⟩:=h0
        exact .gB
      · rw [if_neg h0]at e;injection e with e;subst e
        have hn:n*sz<=c*sz:=Nat.mul_le_mul_right _ hc
        refine .arr (us:=cur.toList.take (n*sz)) hc (hb b (by simp)) ⟨cur,e',(0,0),hc1,λi u hi=> ?_⟩ (by rw[List.length_take];simp;omega) λi x u hxi hui=> ?_
        · rw[List.getElem?_take]at hi
          split at hi
          · simpa using hi
          · cases hi
        · obtain⟨v,h1,h2⟩:=hx i x hxi
          rw[List.getElem?_take]at hui
          split at hui
          · have:cur[i]? =some u:=by simpa using hui
            rw[this]at h1
            injection h1 with h1
            subst h1
            exact h2.grow hF
          · cases hui
  have lst: ∀ {d:Nat},(∀ x u bs y,TR H (VC H F) (VC H F) x u bs→(∀ b ∈ bs,F' b)→fP d x=some y→VC H F' y u)→ ∀ {xs:List AV} {us:List Value} {bs:List Nat} {ys:List AV},dO H (VC H F) (VC H F) xs us bs→(∀ b ∈ bs,F' b)→aZ (fP d) xs=some ys→
      ys.length=us.length/\ ∀ (i:Nat) y u,ys[i]? =some y->us[i]? =some u->VC H F' y u:=λ {d} ih xs=>by
    induction xs with
    |nil=>intro us bs ys h hb e;cases h;simp only[aZ,aH]at e;subst e;exact⟨rfl,λi y u h=>by simp at h⟩
    | cons x xs ihx=>
      intro us bs ys h hb e
      cases h with
      | cons h1 h2=>
        simp only[aZ,aA,aH]at e
        obtain⟨y,hy,zs,hz,rfl⟩:=e
        obtain⟨a,b⟩:=ihx h2 (λb hb'=>hb b (by simp[hb'])) hz
        refine⟨by simp[a],λi y' u' hi hu=> ?_⟩
        cases i with
        | zero=>
          simp only[List.getElem?_cons_zero,aH]at hi hu
          subst hi;subst hu
          exact ih _ _ _ _ h1 (λb hb'=>hb b (by simp[hb'])) hy
        |succ i=>exact b i y' u' (by simpa using hi) (by simpa using hu)
  induction d with
  | zero=>
    intro x u bs y h hb e
    cases x with
    |v x=>cases h with|base h=>exact CB 0 _ _ _ (h.grow hF) e
    |arr n xs=>cases h with|base h=>exact CB 0 _ _ _ (h.grow hF) e
    |fresh sz n xs=>simp only[fP]at e;exact fr h hb e
    |_=>simp[fP]at e
  | succ d ih=>
    intro x u bs y h hb e
    cases x with
    |v x=>cases h with|base h=>exact CB (d+1) _ _ _ (h.grow hF) e
    |arr n xs=>cases h with|base h=>exact CB (d+1) _ _ _ (h.grow hF) e
    |fresh sz n xs=>simp only[fP]at e;exact fr h hb e
    | agg xs=>
      cases h with
      |base h=>exact CB (d+1) _ _ _ (h.grow hF) e
      | agg hx=>
        simp only[fP,aA,aH]at e
        obtain⟨ys,hys,rfl⟩:=e
        obtain⟨a,b⟩:=lst ih hx hb hys
        exact .agg a b
    | tuple xs=>
      cases h with
      |base h=>exact CB (d+1) _ _ _ (h.grow hF) e
      | tuple hx=>
        simp only[fP,aA,aH]at e
        obtain⟨ys,hys,rfl⟩:=e
        obtain⟨a,b⟩:=lst ih hx hb hys
        exact .tuple a b
    |_=>simp[fP]at e
theorem bH.Nh{P:Program}{f:FuncId}{args:List AV}{r y:AV}(h:bH P f args r)(hs:fP 4 r=some y):bH P f args y:=by
  refine⟨h.1,λw F us hF hl hx=>(h.2 w F us hF hl hx).mono ?_⟩
  rintro e w' ⟨u,F',bs,he,hg,f1,f2,f3,ht,hnd,hb⟩
  refine⟨u,λb=>F' b∨b ∈ bs,[],he,hg,λb hF=> .inl (f1 b hF),λb hF=>hF.elim (f2 b) λh=>(hb b h).2.1,λb hF hlt=>hF.elim (λh=>f3 b h hlt) λh=> ?_,.base (ayA (λb h=> .inl h) 4 r u bs y ht (λb h=> .inr h) hs),.nil,λb h=>by cases h⟩
  have:=(hb b h).1
  omega
section
variable {P:Program} {C:bG} {cp:aC} {ci:bz} {n d:Nat} {D:List (Nat×List Nat)} {e:Env} {h:Heap} {α β:Type} {s:Option β} {enc:β->AV}
def Bi(P:Program)(rs:List ResultVar)(ts:List TypeId):KK:=fun y e h=>match y with
  | .exit _=>none
  |_=>(wW P ⟨.skip,rs,ts⟩ e h).bind (fP 4)
theorem am3{rs ts}:Bi P rs ts .ret e h=(wW P ⟨.skip,rs,ts⟩ e h).bind (fP 4):=rfl
theorem am2{rs ts}:Bi P rs ts .normal e h=(wW P ⟨.skip,rs,ts⟩ e h).bind (fP 4):=rfl
theorem ayy{x}:fP d (.v x)=some (.v x):=by cases d <;> rfl
theorem ays{m xs}:fP d (.arr m xs)=some (.arr m xs):=by cases d <;> rfl
theorem ayv{f:α→AV}{sz:Nat}{l:List α}:fP d (.fresh sz l.length (lm f l))=some (.arr l.length (lm f l)):=by
  cases l with
  |nil=>cases d <;> rfl
  |cons x l=>cases d <;> simp[fP]
theorem ayu{c:α→List AV}{sz:Nat}{l:List α}:fP d (.fresh sz l.length (fm c l))=some (.arr l.length (fm c l)):=by
  cases l with
  |nil=>cases d <;> rfl
  |cons x l=>cases d <;> simp[fP]
theorem ayw{sz:Nat}:fP d (.fresh sz 0 [])=some (.arr 0 []):=by cases d <;> rfl
theorem ayt{sz m:Nat}{x:AV}{xs:List AV}:fP d (.fresh sz m (x::xs))=some (.arr m (x::xs)):=by cases d <;> simp[fP]
theorem ayr{xs}:fP (d+1) (.agg xs)=(aZ (fP d) xs).bind λys=>some (.agg ys):=rfl
theorem ayx{xs}:fP (d+1) (.tuple xs)=(aZ (fP d) xs).bind λys=>some (.tuple ys):=rfl
def SE:=af @am3<|af @am2<|af @ayy<|af @ays<|af @ayv<|af @ayu<|af @ayw<|af @ayt<|af @ayr<| @ayx
theorem aw4(hm:P.follows .mixedOrders=true)(hcp:aK P cp)(hci:eH P ci){f:FuncId}{i:aU}(hi:aN P f D=some i){args:List AV}
    (j:J (go P C cp ci 0 [] D n (Bi P i.results i.types) i.code (bW 0 args) [] []) s enc) {b:β} (hb:s=some b):bH P f args (enc b):=by
  have:=j b hb
  unfold go at this
  cases hx:exec P C cp ci 0 [] D n i.code (bW 0 args) []with
  |none=>rw[hx]at this;cases this
  | some r=>
    rw[hx]at this
    rcases r with⟨y,e,h⟩
    have hy:(wW P ⟨.skip,i.results,i.types⟩ e h).bind (fP 4)=some (enc b):=by cases y <;> first|exact this|cases this
    obtain⟨r0,h0,h1⟩:=aA.1 hy
    refine(bM hm (C:=C) hcp hci (n:=n) hi (r:=r0) ?_).Nh h1
    unfold bI
    rw[hx]
    cases y <;> first|exact h0|cases this
end
end Go.Av
