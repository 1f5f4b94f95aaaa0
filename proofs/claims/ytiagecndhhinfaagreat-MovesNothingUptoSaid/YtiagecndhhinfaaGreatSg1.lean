/- A quiet operation comes to the same whatever quiet operations came ahead of it. Conditions: none. -/
import Derived.Test.YtiagecndhhinfaaGreatSf3
set_option linter.unusedVariables false
namespace Go.Av
def ql(g g':Id->Option ak):Prop:= ∀ id b b',g id=some b->g' id=some b'->b=b'
section
variable {P:Program} {H:Array Obj} {F:Nat->Prop} {h:Heap} {M:Id->Option Nat} {g:Id->Option ak}
theorem LV(hc:ql g h.get){id:Id}{off n ext:Nat}{u:Value}(hv:VR H F h M (.own id off n ext) u){b:ak}(hg:g id=some b):h.get id=some b:=by
  obtain⟨a,c,cl,rw',sz',e',cells',rfl,hg',_⟩:=hv.nZ
  rw[hc id b _ hg hg'];exact hg'
theorem TG(hc:ql g h.get){id:Id}{off ext:Nat}{u:Value}(hv:VR H F h M (.ptr id off ext) u){b:ak}(hg:g id=some b):h.get id=some b:=by
  obtain⟨b',hg',_⟩:=hv.zH
  rw[hc id b _ hg hg'];exact hg'
theorem ae8(hc:ql g h.get){t:TypeId}{x y:AV}{u:Value}(hv:VR H F h M x u)(e:pz P g t x=some y):pz P h.get t x=some y:=by
  unfold pz at e ⊢
  split at e
  · simp only[aA]at e ⊢
    obtain⟨b,hg,e⟩:=e
    exact⟨b,TG hc hv hg,e⟩
  · exact e
  · cases e
theorem TE(hc:ql g h.get){id:Id}{off ext:Nat}{u:Value}(hv:VR H F h M (.ptr id off ext) u)(e:live g id ext=true):live h.get id ext=true:=by
  obtain⟨b,hg,hb⟩:=LQ e
  unfold live
  rw[TG hc hv hg]
  simpa using hb
theorem aeG(hc:ql g h.get){s:TypeId}{i:Nat}{x y:AV}{u:Value}(hv:VR H F h M x u)(e:nK P s g x i=some y):nK P s h.get x i=some y:=by
  unfold nK at e ⊢
  simp only[aA]at e ⊢
  obtain⟨p,hp,e⟩:=e
  refine⟨p,hp,?_⟩
  split at e
  · cases e
  · rename_i h0
    rw[if_neg h0]
    split at e
    · split at e
      · rename_i hl;rw[if_pos (TE hc hv hl)];exact e
      · cases e
    · exact e
    · cases e
theorem aeL(hc:ql g h.get){t:TypeId}{i:Int}{x y:AV}{u:Value}(hv:VR H F h M x u)(e:oJ P t g x i=some y):oJ P t h.get x i=some y:=by
  unfold oJ at e ⊢
  simp only[aA]at e ⊢
  obtain⟨tv,htv,e⟩:=e
  refine⟨tv,htv,?_⟩
  split at e
  · exact e
  · simp only[aA]at e ⊢
    obtain⟨b,hg,e⟩:=e
    exact⟨b,LV hc hv hg,e⟩
  · split at e
    · rename_i hl;rw[if_pos ⟨TE hc hv hl.1,hl.2⟩];exact e
    · cases e
  · exact e
  · cases e
theorem ahm(hc:ql g h.get){t:TypeId}{lo hi:Option AV}{x y:AV}{u:Value}(hv:VR H F h M x u)(e:lg P t g x lo hi=some y):lg P t h.get x lo hi=some y:=by
  unfold lg at e ⊢
  simp only[aA]at e ⊢
  obtain⟨tv,htv,e⟩:=e
  refine⟨tv,htv,?_⟩
  split at e
  · exact e
  · simp only[aA]at e ⊢
    obtain⟨b,hg,e⟩:=e
    exact⟨b,LV hc hv hg,e⟩
  · exact e
  · cases e
theorem aa4{α β:Type}{f f':α→Option β}: ∀ {l:List α} {ys:List β},l.mapM f=some ys→(∀ x ∈ l,∀ y,f x=some y→f' x=some y)→l.mapM f'=some ys
  |[],ys,h,_=>by rw[mapM_nil]at h ⊢;exact h
  | a::l,ys,h,hf=>by
    rw[mapM_cons,aA]at h
    obtain⟨b,h1,h⟩:=h
    rw[aA]at h
    obtain⟨bs,h2,h⟩:=h
    rw[mapM_cons,hf a (by simp) b h1,Option.bind_some,aa4 h2 λx hx=>hf x (by simp[hx]),Option.bind_some]
    exact h
theorem mapM_mem{α β:Type}{f:α→Option β}: ∀ {l:List α} {ys:List β},l.mapM f=some ys→ ∀ x ∈ l,∃ y,f x=some y
  |[],ys,h,x,hx=>by cases hx
  | a::l,ys,h,x,hx=>by
    rw[mapM_cons,aA]at h
    obtain⟨b,h1,h⟩:=h
    rw[aA]at h
    obtain⟨bs,h2,h⟩:=h
    rcases List.mem_cons.1 hx with rfl|hx
    · exact⟨b,h1⟩
    · exact mapM_mem h2 x hx
theorem amT{g g':Id→Option ak}(d:Nat)(x:Value):aG g d (.v x)=aG g' d (.v x)∧aW g d (.v x)=aW g' d (.v x):=by
  refine⟨?_,by cases d <;> rfl⟩
  cases d <;> cases x <;> first|rfl|(rename_i a n c;cases a <;> cases n <;> rfl)
theorem amS(hk:aQ H F h M)(hc:ql g h.get): ∀ d x u y,VR H F h M x u→aG g d x=some y→aG h.get d x=some y∧aW g d x=aW h.get d x:=by
  intro d
  have lists: ∀ d,(∀ x u y,VR H F h M x u→aG g d x=some y→aG h.get d x=some y∧aW g d x=aW h.get d x)→ ∀ (xs ys:List AV),(∀ x ∈ xs,∃ u,VR H F h M x u)→xs.mapM (aG g d)=some ys→
      xs.mapM (aG h.get d)=some ys/\xs.map (aW g d)=xs.map (aW h.get d):=λd ih xs ys hx hm=>by
    refine⟨aa4 hm λx hxm y hy=>let ⟨u,hu⟩:=hx x hxm;(ih x u y hu hy).1,List.map_congr_left λx hxm=> ?_⟩
    obtain⟨u,hu⟩:=hx x hxm
    obtain⟨y,hy⟩:=mapM_mem hm x hxm
    exact(ih x u y hu hy).2
  have ownC: ∀ d id off n ext u y,VR H F h M (.own id off n ext) u→ ∀ rw sz e cells,g id=some (.sl true rw sz e cells)→aG g d (.own id off n ext)=some y→
      aG h.get d (.own id off n ext)=some y/\aW g d (.own id off n ext)=aW h.get d (.own id off n ext):=λd id off n ext u y hv rw sz e cells hg he=>by
    have hg':=LV hc hv hg
    cases d with
    |zero=>exact⟨by simpa only[aG,hg,hg']using he,by simp only[aW]⟩
    |succ d=>exact⟨by simpa only[aG,hg,hg',Option.bind_some]using he,by simp only[aW,hg,hg']⟩
  have vcase: ∀ d x,aG g d (.v x)=aG h.get d (.v x)/\aW g d (.v x)=aW h.get d (.v x):=λd x=>amT d x
  induction d with
  | zero=>
    intro x u y hv e
    cases x with
    |v x=>exact⟨(vcase 0 x).1 ▸ e,(vcase 0 x).2⟩
    |arr n xs=>exact⟨by simpa only[aG]using e,rfl⟩
    |ay xs off=>exact⟨by simpa only[aG]using e,rfl⟩
    | own id off n ext=>
      cases hg:g id with
      |none=>simp[aG,hg]at e
      | some b=>
        cases b with
        |bx rw cells=>simp[aG,hg]at e
        | sl cl rw sz ee cells=>
          cases cl with
          |true=>exact ownC _ _ _ _ _ _ _ hv _ _ _ _ hg e
          |false=>simp[aG,hg]at e
    | fn f a b=>
      cases a with
      |cons=>cases b <;> simp[aG]at e
      | nil=>cases b with
        |cons=>simp[aG]at e
        |nil=>exact⟨by simpa only[aG]using e,rfl⟩
    |_=>simp[aG]at e
  | succ d ih =>
    intro x u y hv e
    cases x with
    |v x=>exact⟨(vcase (d+1) x).1 ▸ e,(vcase (d+1) x).2⟩
    |arr n xs=>exact⟨by simpa only[aG]using e,rfl⟩
    |ay xs off=>exact⟨by simpa only[aG]using e,rfl⟩
    | own id off n ext=>
      cases hg:g id with
      |none=>simp[aG,hg]at e
      | some b=>
        cases b with
        |bx rw cells=>simp[aG,hg]at e
        | sl cl rw sz ee cells=>
          cases cl with
          |true=>exact ownC _ _ _ _ _ _ _ hv _ _ _ _ hg e
          | false=>
            have hg':=LV hc hv hg
            simp only[aG,hg,Option.bind_some]at e
            split at e
            · rename_i hee
              simp only[aA]at e
              obtain⟨cs,e1,e2⟩:=e
              obtain⟨hl,hr⟩:=hk.row _ _ hg'
              obtain⟨q1,q2⟩:=lists d ih cells cs (fun x hx=>by
                obtain⟨i,hi⟩:=List.getElem?_of_mem hx
                rcases hr with⟨rfl,_⟩|⟨b,cur,t,_,_,_,_,h5⟩
                · simp at hl;subst hl;cases hx
                · obtain⟨u,_,_,a2⟩:=h5 i x hi;exact⟨u,a2 rfl⟩) e1
              refine⟨?_,by simp only[aW,hg,hg',q2]⟩
              simp only[aG,hg',Option.bind_some,if_pos hee,q1]
              exact e2
            · cases e
    | ptr id off ext=>
      cases hg:g id with
      |none=>simp[aG,hg]at e
      | some blk=>
        have hg':=TG hc hv hg
        cases blk with
        |sl cl rw sz ee cells=>simp[aG,hg]at e
        | bx rw cells=>
          simp only[aG,hg,Option.bind_some]at e
          split at e
          · rename_i hee
            simp only[aA]at e
            obtain⟨cs,e1,e2⟩:=e
            obtain⟨b,cur,t,_,_,_,_,_,h5⟩:=hk.row _ _ hg'
            obtain⟨q1,q2⟩:=lists d ih cells cs (fun x hx=>by
              obtain⟨i,hi⟩:=List.getElem?_of_mem hx
              obtain⟨u,_,a2⟩:=h5 i x hi;exact⟨u,a2⟩) e1
            refine⟨?_,by simp only[aW,hg,hg',q2]⟩
            simp only[aG,hg',Option.bind_some,if_pos hee,q1]
            exact e2
          · cases e
    | fn f a b=>
      obtain⟨us,vs,rfl,l1,x1,l2,x2⟩:=hv.qA
      simp only[aG,aA]at e
      obtain⟨a',e1,b',e2,e3⟩:=e
      obtain⟨q1,q2⟩:=lists d ih a a' (fun x hx=>by
        obtain⟨i,hi⟩:=List.getElem?_of_mem hx
        obtain⟨u,_,hu⟩:=oK l1 x1 hi;exact⟨u,hu⟩) e1
      obtain⟨q3,q4⟩:=lists d ih b b' (fun x hx=>by
        obtain⟨i,hi⟩:=List.getElem?_of_mem hx
        obtain⟨u,_,hu⟩:=oK l2 x2 hi;exact⟨u,hu⟩) e2
      refine⟨?_,by simp only[aW,q2,q4]⟩
      simp only[aG,q1,q3,Option.bind_some]
      exact e3
    | agg xs=>
      obtain⟨us,rfl,hl,hx⟩:=hv.nM
      simp only[aG,aA]at e
      obtain⟨a',e1,e3⟩:=e
      obtain⟨q1,q2⟩:=lists d ih xs a' (fun x hxm=>by
        obtain⟨i,hi⟩:=List.getElem?_of_mem hxm
        obtain⟨u,_,hu⟩:=oK hl hx hi;exact⟨u,hu⟩) e1
      refine⟨?_,by simp only[aW,q2]⟩
      simp only[aG,q1,Option.bind_some]
      exact e3
    | tuple xs=>
      obtain⟨us,rfl,hl,hx⟩:=hv.xM
      simp only[aG,aA]at e
      obtain⟨a',e1,e3⟩:=e
      obtain⟨q1,q2⟩:=lists d ih xs a' (fun x hxm=>by
        obtain⟨i,hi⟩:=List.getElem?_of_mem hxm
        obtain⟨u,_,hu⟩:=oK hl hx hi;exact⟨u,hu⟩) e1
      refine⟨?_,by simp only[aW,q2]⟩
      simp only[aG,q1,Option.bind_some]
      exact e3
    |fresh sz n xs=>simp[aG]at e
    |freshO sz n xs=>simp[aG]at e
    |newbx xs=>simp[aG]at e
end
end Go.Av
