/- Code: what the interpreter makes of it the model makes of it. Conditions: none. -/
import Derived.Test.YtiagecndhhinfaaGreatSy
import Derived.Below
set_option linter.unusedVariables false
namespace Go.Av
def jg:Code→Bool
  | .seq a b=>jg a&&jg b
  | .cond _ a b=>jg a&&jg b
  | .block _ c=>jg c
  | .loop c=>jg c
  | .scope c=>jg c
  | .rangeFunc _ _ _ _=>false
  |_=>true
def codeOk(N:jq)(D:List (Nat×List Nat)):Code→Bool
  | .skip=>true
  | .label _=>true
  | .exit _=>true
  | .ret=>true
  | .region id ⟨ops⟩ draw=>ops.all (jD N)&&(!draw || Ri (D.getD (2*id) (0,[])).1 ops.toArray)
  | .seq a b=>codeOk N D a&&codeOk N D b
  | .cond _ a b=>codeOk N D a&&codeOk N D b
  | .block _ c=>codeOk N D c
  | .loop c=>codeOk N D c
  | .scope c=>codeOk N D c
  | .rangeFunc _ ⟨ps⟩ a b=>codeOk N D a&&codeOk N D b&&jg a&&jg b&&ps.all (λp=>decide (p<N.n)&&(N.y.isNone || p != 0))
  |_=>false
def Ex.FC:Ex→Exit
  | .normal=> .normal
  | .exit id=> .exit id
  | .ret=> .ret
section
variable {P:Program} {C:bG} {cp:aC} {ci:bz} {lvl:Nat} {N:jq} {prot:List Id} {D:List (Nat×List Nat)}
theorem St.drop {w:World}{F:Nat→Prop}{h:Heap}{M:Id→Option Nat}{e:Env}{a:Act}(st:St N w F h M e a)(ds:List Nat):St N w F h M (e.drop ds) a:=by
  have hget : ∀ (e:Env) k x,(e.drop ds).get k=some x→e.get k=some x:=fun e=>by
    induction e with
    |nil=>intro k x h;simp[Env.drop,Env.get]at h
    | cons p e ih=>
      obtain⟨j,y⟩:=p
      intro k x h
      unfold Env.drop at h
      split at h
      · rename_i hj
        have:=ih k x h
        simp only[Env.get]
        by_cases e1:j=k
        · subst e1
          exfalso
          -- what is struck does not come back
          have hnot: ∀ (e:Env),(e.drop ds).get j=none:=fun e=>by
            induction e with
            |nil=>simp[Env.drop,Env.get]
            | cons p e ih2=>
              obtain⟨j2,y2⟩:=p
              unfold Env.drop
              split
              · exact ih2
              · rename_i hj2
                simp only[Env.get]
                rw[if_neg (λhe:j2=j=>hj2 (by rw[he];exact hj))]
                exact ih2
          rw[hnot]at h;cases h
        · rw[if_neg e1];exact this
      · simp only[Env.get]at h ⊢
        split at h
        · rename_i e1;rw[if_pos e1];exact h
        · rename_i e1;rw[if_neg e1];exact ih k x h
  exact⟨st.ok,λk x hx=>st.env k x (hget e k x hx),st.size,st.defers⟩
theorem fK.set{w:World}{F:Nat→Prop}{h:Heap}{M:Id→Option Nat}{e:Env}{a:Act}(he:fK w.heap F h M e.get a){k:Nat}{y:AV}(hy:VR w.heap F h M y (a.tmps.getD k undef)):fK w.heap F h M (e.set k y).get a:=fun j x hj=>by
  by_cases e1:j=k
  · subst e1
    rw[wU]at hj;injection hj with hj;subst hj
    exact hy
  · rw[uY e k j y e1]at hj
    exact he j x hj
theorem Ro(ds:List Nat): ∀ (e:Env) (k:Nat),jJ ds k=false→(e.drop ds).get k=e.get k
  |[],k,_=>rfl
  | (j,y)::e,k,hk=>by
    unfold Env.drop
    split
    · rename_i hj
      rw[Ro ds e k hk]
      simp only[Env.get]
      rw[if_neg (λhe:j=k=>by subst he;rw[hk]at hj;cases hj)]
    · simp only[Env.get,Ro ds e k hk]
theorem ayR {w:World}{a:Act}{F:Nat→Prop}{h:Heap}{M:Id→Option Nat}{e e':Env}{h':Heap}{k:Nat}(st:St N w F h M e a)(hq:shrink prot k e h=some (e',h')):
    St N w F h' M e' a/\bn (λid=>mP prot id=true) w F h M w F h' M:=by
  unfold shrink at hq
  simp only[aA]at hq
  obtain⟨x,hx,hq⟩:=hq
  unfold Fg at hq
  split at hq
  · rename_i id n ext
    simp only[aA]at hq
    obtain⟨blk,hg,hq⟩:=hq
    unfold Ff at hq
    split at hq
    · rename_i sz e2 cells
      split at hq
      · rename_i hc
        obtain⟨rfl,hn,hp,he,hh⟩:=hc
        injection hq with hq
        simp only[Prod.mk.injEq]at hq
        obtain⟨rfl,rfl⟩:=hq
        have hk:=st.ok
        have hget: ∀ j,j≠id->(h.set id (.sl true true sz n (cells.take (n*sz)))).get j=h.get j:=λj hj=>jU h id j _ hj
        have hv: ∀ y u,names id 4 y=false→VR w.heap F h M y u→VR w.heap F (h.set id (.sl true true sz n (cells.take (n*sz)))) M y u:=fun y u hy v=>
          v.dropped 4 λj hj=>hget j λe=>by subst e;rw[hy]at hj;cases hj
        have hnh: ∀ j b,h.get j=some b→qF id b=false:=fun j b hb=>by
          cases hnb:qF id b with
          |false=>rfl
          |true=>rw[TM hb hnb]at hh;cases hh
        have hrow:=hk.row id _ hg
        have hok :aQ w.heap F (h.set id (.sl true true sz n (cells.take (n*sz)))) M:=by
          refine⟨λj x hj=> ?_,λj j' x x' b g1 g2=> ?_,hk.fb⟩
          · by_cases e1:j=id
            · subst e1
              rw[get_set_same]at hj
              injection hj with hj
              subst hj
              obtain⟨hl,hr⟩:=hrow
              refine⟨?_,?_⟩
              · rw[List.length_take,hl];exact Nat.min_eq_left (Nat.mul_le_mul_right _ hn)
              · rcases hr with⟨h1,h2⟩|⟨b,cur,t,h1,h2,h3,h4,h5⟩
                · exact .inl ⟨by omega,h2⟩
                · refine .inr ⟨b,cur,t,h1,h2,h3,h4,fun i y hy=> ?_⟩
                  have hy':cells[i]? =some y:=by
                    rw[List.getElem?_take]at hy
                    split at hy
                    · exact hy
                    · cases hy
                  obtain⟨u,a1,a2,a3⟩:=h5 i y hy'
                  exact⟨u,a1,a2,λhcl=>by cases hcl⟩
            · rw[hget j e1]at hj
              have hr:=hk.row j x hj
              have hnb:=hnh j x hj
              cases x with
              | sl cl rw_ sz2 ext2 cells2=>
                obtain⟨hl,hr⟩:=hr
                refine⟨hl,hr.imp_right λ⟨b,cur,t,h1,h2,h3,h4,h5⟩=>⟨b,cur,t,h1,h2,h3,h4,λi y hy=> ?_⟩⟩
                obtain⟨u,a1,a2,a3⟩:=h5 i y hy
                refine⟨u,a1,a2,λhcl=>hv y u ?_ (a3 hcl)⟩
                subst hcl
                simp only[qF,List.any_eq_false]at hnb
                simpa using hnb y (List.mem_of_getElem? hy)
              | bx rw_ cells2=>
                obtain⟨b,cur,t,h1,h2,hl,h3,h4,h5⟩:=hr
                refine⟨b,cur,t,h1,h2,hl,h3,h4,λi y hy=> ?_⟩
                obtain⟨u,a1,a2⟩:=h5 i y hy
                refine⟨u,a1,hv y u ?_ a2⟩
                simp only[qF,List.any_eq_false]at hnb
                simpa using hnb y (List.mem_of_getElem? hy)
          · have old: ∀ j x,(h.set id (.sl true true sz n (cells.take (n*sz)))).get j=some x→ ∃ y,h.get j=some y:=fun j x hj=>by
              by_cases e1:j=id
              · subst e1;exact⟨_,hg⟩
              · rw[hget j e1]at hj;exact⟨x,hj⟩
            obtain⟨y,hy⟩:=old j x g1
            obtain⟨y',hy'⟩:=old j' x' g2
            exact hk.inj j j' y y' b hy hy'
        refine⟨⟨hok,λj x hj=> ?_,st.size,st.defers⟩,rfl,rfl,rfl,Nat.le_refl _,λ_ _ _=>rfl,λ_ h=>h,λ_ h _=> .inl h,λj y hy hr=> .inl ?_,λj x hj hpj=>⟨x,?_,Held.refl rfl λ_ _=>rfl⟩⟩
        · by_cases e1:j=k
          · subst e1
            rw[wU]at hj
            injection hj with hj
            subst hj
            obtain⟨a0,c,cl,rw_,sz2,e3,cells2,hu,hg2,hnc,hle,ho⟩:=(st.env _ _ hx).nZ
            rw[hg]at hg2
            injection hg2 with hg2
            injection hg2 with q1 q2 q3 q4 q5
            subst q1 q2 q3 q4 q5
            rw[hu]
            refine .own (get_set_same _ _ _) hnc (Nat.le_refl _) λ_=> ?_
            obtain⟨o1,o2⟩:=ho rfl
            refine⟨?_,o2⟩
            exact Nat.le_trans (Nat.mul_le_mul_right _ hnc) (Nat.le_add_left _ _)
          · rw [uY e k j _ e1]at hj
            refine hv x _ ?_ (st.env j x hj)
            cases hnm:names id 4 x with
            |false=>rfl
            | true=>
              have hd:(e.drop [k]).get j=some x:=by
                rw[Ro [k] e j (by simp[jJ,Ne.symm e1])];exact hj
              rw[EO hd hnm]at he;cases he
        · by_cases e1:j=id
          · subst e1
            exact⟨_,hg,rfl,rfl⟩
          · rw[hget j e1]at hy;exact⟨y,hy,hr,rfl⟩
        · have:j≠id:=fun e1=>by subst e1;rw[hp]at hpj;cases hpj
          rw[hget j this];exact hj
      · cases hq
    · cases hq
  · injection hq with hq
    simp only[Prod.mk.injEq]at hq
    obtain⟨rfl,rfl⟩:=hq
    exact⟨st,.refl⟩
  · cases hq
theorem arK{H:Array Obj}{F:Nat→Prop}{h h':Heap}{M:Id→Option Nat}{k:Id}{sz:Nat}{cl:Bool}(hk:aQ H F h M)(e:h.new k (.sl cl true sz 0 [])=some h'):
    ∃ M',rW H F [] h M h' M'/\VR H F h' M' (.own k 0 0 0) (.slice none 0 0):=by
  have hg:h'.get k=some (.sl cl true sz 0 []):=by obtain⟨_,rfl⟩:=vK e;exact get_set_same _ _ _
  refine⟨kJ M k none,Et hk e rfl (λb hb=>by cases hb) ⟨by simp,.inl ⟨rfl,o6⟩⟩,?_⟩
  exact .own hg (Nat.le_refl _) (Nat.le_refl _) λ_=>⟨by simp,.inl ⟨rfl,rfl⟩⟩
theorem avV {w:World}{a:Act}{F:Nat→Prop}{h:Heap}{M:Id→Option Nat}{e:Env}{h':Heap}{k sz c lvl:Nat}(st:St N w F h M e a)(hq:BU lvl k sz c e h=some h'):
    ∃ M',St N w F h' M' e a/\bn All w F h M w F h' M':=by
  unfold BU at hq
  simp only[aA]at hq
  obtain⟨x,hx,hq⟩:=hq
  unfold Me at hq
  split at hq
  · rename_i id
    simp only[aA]at hq
    obtain⟨blk,hg,hq⟩:=hq
    unfold Md at hq
    split at hq
    · rename_i cells
      simp only[aA]at hq
      obtain⟨z,hz,hq⟩:=hq
      unfold BV at hq
      split at hq
      · by_cases hsz:sz=0
        · rw [if_pos hsz]at hq
          simp only[aH]at hq
          subst hq
          obtain⟨b1,cur1,t1,n1,n2,hlen1,n3,n4,n5⟩:=st.ok.row id _ hg
          obtain⟨u1,d1,d2⟩:=n5 c _ hz
          obtain rfl:=d2.fJ
          have hu:= @Du w w F _ M st.ok id _ (.bx true (cells.set c (.arr 0 []))) hg rfl rfl (M id) rfl rfl rfl (Nat.le_refl _) (λc _ _=>rfl) (.inl rfl)
          rw[FV]at hu
          have hheld:Held w.heap w.heap M M id (.bx true cells) (.bx true (cells.set c (.arr 0 []))):=⟨λ_ _ _ _ _ h=>(by cases h),Nat.le_refl _,λ_=>⟨rfl,λ_ _=>rfl⟩⟩
          obtain⟨k2,ev2⟩:=hu hheld (fun hh hF=>⟨b1,cur1,t1,n1,n2,by rw[List.length_set];exact hlen1,n3,n4,fun i y hy=>by
            rw[List.getElem?_set]at hy
            split at hy
            · rename_i hci
              subst hci
              split at hy
              · injection hy with hy
                subst hy
                exact⟨_,d1,.c .gB⟩
              · cases hy
            · obtain⟨u2,g1,g2⟩:=n5 i y hy
              exact⟨u2,g1,g2.keep (λ_ h=>h) (λ_ _=>rfl) hh⟩⟩)
          exact⟨M,⟨k2,λj x hj=>bn.vr st.ok ev2 (st.env j x hj),st.size,st.defers⟩,ev2⟩
        rw[if_neg hsz]at hq
        obtain⟨ocl,osz,hB⟩: ∃ ocl osz,(if 500<sz then ak.sl false true (sz - 500) 0 []else .sl true true sz 0 [])= .sl ocl true osz 0 []:=by split <;> exact⟨_,_,rfl⟩
        rw[hB]at hq
        simp only[aA,aH]at hq
        obtain⟨h1,hn,rfl⟩:=hq
        obtain⟨b,cur,t,m1,m2,hlen,m3,m4,m5⟩:=st.ok.row id _ hg
        obtain⟨M1,im,hvr⟩:=arK (F:=F) (H:=w.heap) (M:=M) st.ok hn
        have ev:bn All w F h M w F h1 M1:=im.jS (Nat.le_refl _) (λb hb=>by cases hb) .refl st.ok
        obtain⟨hnone,rfl⟩:=vK hn
        have hne:id≠(lvl,k,78+c):=λe1=>by subst e1;rw[hg]at hnone;cases hnone
        have hg1:(h.set (lvl,k,78+c) (.sl ocl true osz 0 [])).get id=some (.bx true cells):=by rw[jU _ _ _ _ hne];exact hg
        have hrow1:=im.ok.row id _ hg1
        obtain⟨b1,cur1,t1,n1,n2,hlen1,n3,n4,n5⟩:=hrow1
        obtain⟨u1,d1,d2⟩:=n5 c _ hz
        obtain rfl:=d2.fJ
        have hu:= @Du w w F _ M1 im.ok id _ (.bx true (cells.set c (.own (lvl,k,78+c) 0 0 0))) hg1 rfl rfl (M1 id) rfl rfl rfl (Nat.le_refl _) (λc _ _=>rfl) (.inl rfl)
        rw[FV]at hu
        have hheld:Held w.heap w.heap M1 M1 id (.bx true cells) (.bx true (cells.set c (.own (lvl,k,78+c) 0 0 0))):=⟨λ_ _ _ _ _ h=>(by cases h),Nat.le_refl _,λ_=>⟨rfl,λ_ _=>rfl⟩⟩
        obtain⟨k2,ev2⟩:=hu hheld (fun hh hF=>⟨b1,cur1,t1,n1,n2,by rw[List.length_set];exact hlen1,n3,n4,fun i y hy=>by
          rw[List.getElem?_set]at hy
          split at hy
          · rename_i hci
            subst hci
            split at hy
            · injection hy with hy
              subst hy
              exact⟨_,d1,hvr.keep (λ_ h=>h) (λ_ _=>rfl) hh⟩
            · cases hy
          · obtain⟨u2,g1,g2⟩:=n5 i y hy
            exact⟨u2,g1,g2.keep (λ_ h=>h) (λ_ _=>rfl) hh⟩⟩)
        refine⟨M1,⟨k2,λj x hj=> ?_,st.size,st.defers⟩,ev.trans im.ok ev2⟩
        exact bn.vr im.ok ev2 ((st.env j x hj).ext im.ext)
      · rename_i j off n ext
        simp only[aA]at hq
        obtain⟨bj,hj,hq⟩:=hq
        unfold ada at hq
        split at hq
        · rename_i sz' e' cs
          split at hq
          · rename_i hee
            simp only[aH]at hq
            subst hq
            obtain⟨b1,cur1,t1,n1,n2,hlen1,n3,n4,n5⟩:=st.ok.row id _ hg
            obtain⟨u1,d1,d2⟩:=n5 c _ hz
            have hfr: ∀ b,M j=some b→F b:=fun b hb=>by
              obtain⟨_,hr⟩:=st.ok.row j _ hj
              rcases hr with⟨_,h0⟩|⟨b',cur,t,q1,q2,q3,q4,q5⟩
              · rw[h0]at hb;cases hb
              · rw[q1]at hb;injection hb with hb;subst hb;exact q4 rfl
            have hvc:=Ru st.ok d2 hj hee (G:=F) (λ_ h=>h) hfr
            have hu:= @Du w w F _ M st.ok id _ (.bx true (cells.set c (.arr n (cut cs off n sz' e')))) hg rfl rfl (M id) rfl rfl rfl (Nat.le_refl _) (λc _ _=>rfl) (.inl rfl)
            rw[FV]at hu
            have hheld:Held w.heap w.heap M M id (.bx true cells) (.bx true (cells.set c (.arr n (cut cs off n sz' e')))):=⟨λ_ _ _ _ _ h=>(by cases h),Nat.le_refl _,λ_=>⟨rfl,λ_ _=>rfl⟩⟩
            obtain⟨k2,ev2⟩:=hu hheld (fun hh hF=>⟨b1,cur1,t1,n1,n2,by rw[List.length_set];exact hlen1,n3,n4,fun i y hy=>by
              rw[List.getElem?_set]at hy
              split at hy
              · rename_i hci
                subst hci
                split at hy
                · injection hy with hy
                  subst hy
                  exact⟨_,d1,.c hvc⟩
                · cases hy
              · obtain⟨u2,g1,g2⟩:=n5 i y hy
                exact⟨u2,g1,g2.keep (λ_ h=>h) (λ_ _=>rfl) hh⟩⟩)
            exact⟨M,⟨k2,λj x hj=>bn.vr st.ok ev2 (st.env j x hj),st.size,st.defers⟩,ev2⟩
          · cases hq
        · cases hq
      · cases hq
    · cases hq
  · cases hq
theorem sQ{lvl:Nat}{prot:List Id}{w:World}{a:Act}: ∀ (ks:List Nat) {F:Nat→Prop} {h:Heap} {M:Id→Option Nat} {e:Env} {e':Env} {h':Heap},St N w F h M e a→post lvl prot ks e h=some (e',h')→
    ∃ F' M',St N w F' h' M' e' a/\bn (λid=>mP prot id=true) w F h M w F' h' M'
  | [],F,h,M,e,e',h',st,hq=>by
    simp only[post,aH,Prod.mk.injEq]at hq
    obtain⟨rfl,rfl⟩:=hq
    exact⟨F,M,st,.refl⟩
  | k ::ks,F,h,M,e,e',h',st,hq=>by
    unfold post at hq
    split at hq
    · exact sQ ks st hq
    · split at hq
      · split at hq
        · rename_i hg
          simp only[aA]at hq
          obtain⟨h1,hn,hq⟩:=hq
          have hv:=(st.env _ _ hg).fJ
          obtain⟨M1,im,hvr⟩:=SQ (F:=F) (H:=w.heap) (M:=M) (u:=a.tmps.getD (k%1000000) undef) (bs:=[]) (by rw[hv];exact .nil) st.ok (λb hb=>by cases hb) (λb hb=>by cases hb) hn
          have ev:bn All w F h M w F h1 M1:=im.jS (Nat.le_refl _) (λb hb=>by cases hb) .refl st.ok
          have st1:St N w F h1 M1 (e.set (k%1000000) (.own (lvl,k%1000000,77) 0 0 0)) a:=⟨im.ok,fK.set (λj x hj=>(st.env j x hj).ext im.ext) hvr,st.size,st.defers⟩
          obtain⟨F2,M2,s2,ev2⟩:=sQ ks st1 hq
          exact⟨F2,M2,s2,(ev.weaken λ_ _=>trivial).trans im.ok ev2⟩
        · exact sQ ks st hq
        · cases hq
      · split at hq
        · simp only[aA]at hq
          obtain⟨r,hr,hq⟩:=hq
          obtain⟨M1,st1,ev1⟩:=avV st hr
          obtain⟨F2,M2,s2,ev2⟩:=sQ ks st1 hq
          exact⟨F2,M2,s2,(ev1.weaken λ_ _=>trivial).trans st1.ok ev2⟩
        split at hq
        · simp only[aA]at hq
          obtain⟨r,hr,hq⟩:=hq
          obtain⟨st1,ev1⟩:=ayR st hr
          obtain⟨F2,M2,s2,ev2⟩:=sQ ks st1 hq
          exact⟨F2,M2,s2,ev1.trans st1.ok ev2⟩
        split at hq
        · obtain⟨k1,ev1,hvr⟩:=Fv st.ok prot e
          have st1:St N w F (sweep prot e h) M e a:=⟨k1,λk y hy=>hvr y _ (λid hid=>EO hy hid) (st.env k y hy),st.size,st.defers⟩
          obtain⟨F2,M2,s2,ev2⟩:=sQ ks st1 hq
          exact⟨F2,M2,s2,ev1.trans k1 ev2⟩
        simp only[aA]at hq
        obtain⟨x,hx,y,hy,hq⟩:=hq
        obtain⟨k1,fz⟩:=ve (aW h.get 4 x) st.ok
        have ev1:=fz.jS (is:=aW h.get 4 x) st.ok
        have hc:=yU st.ok 4 x _ y (st.env _ _ hx) hy
        have st1:St N w _ (dV h (aW h.get 4 x)) M (e.set (k%1000000) y) a:=⟨k1,fK.set (λj x hj=>ev1.vr st.ok (st.env j x hj)) (.c hc),st.size,st.defers⟩
        obtain⟨F2,M2,s2,ev2⟩:=sQ ks st1 hq
        exact⟨F2,M2,s2,(ev1.weaken λ_ _=>trivial).trans k1 ev2⟩
theorem St.qy{w:World}{F:Nat→Prop}{h:Heap}{M:Id→Option Nat}{e:Env}{a:Act}{o:Operand}(st:St N w F h M e a):St N w F h M (qy D o e) a:=by
  cases o <;> try exact st
  rename_i t
  show St N w F h M (if(D.getD (2*t+1) (0,[])).1=0 then e.drop [t]else e) a
  by_cases hd:(D.getD (2*t+1) (0,[])).1=0
  · rw[if_pos hd];exact st.drop _
  · rw[if_neg hd];exact st
def Kp(prot:List Id)(id:Id):Prop:=mP prot id=true
def jq.wd(N:jq)(ds:List Deferred):jq:=⟨N.n,N.y,ds⟩
def uI(P:Program)(N:jq)(r:Option Nat)(prot:List Id)(c:Code)(f:Env→Heap→Option (Ex×Env×Heap)):Prop:=
  ∀ {B:Nat} {ds:List Deferred} {w:World} {F:Nat→Prop} {h:Heap} {M:Id→Option Nat} {e:Env} {a:Act} {x:Ex} {e':Env} {h':Heap} {Q:Exit→Act→World→Prop},St (N.wd ds) w F h M e a→oI B w F ds→f e h=some (x,e',h')→
    (∀ ds' a' w' F' M',(jg c=true->ds'=ds)->St (N.wd ds') w' F' h' M' e' a'->oI B w' F' ds'->bn (Kp prot) w F h M w' F' h' M'->Q x.FC a' w')->c.wpIn (Fw r) 0 P Q a w
theorem adq{p:Prop}{B:Nat}{ds0 ds:List Deferred}{w w2:World}{F F2:Nat→Prop}{h h1 h':Heap}{M M2:Id→Option Nat}{e1 e':Env}{a2:Act}{x1 x:Ex}{Q:Exit→Act→World→Prop}(hq:sweepX prot (x1,e1,h1)=some (x,e',h'))
    (hds:p->ds=ds0) (s2:St (N.wd ds) w2 F2 h1 M2 e1 a2) (dk:oI B w2 F2 ds) (ev2:bn (Kp prot) w F h M w2 F2 h1 M2)
    (hn: ∀ ds' a' w' F' M',(p->ds'=ds0)->St (N.wd ds') w' F' h' M' e' a'->oI B w' F' ds'->bn (Kp prot) w F h M w' F' h' M'->Q x.FC a' w'):Q x1.FC a2 w2:=by
  cases x1 with
  | normal=>
    simp only[sweepX,aH,Prod.mk.injEq]at hq
    obtain⟨rfl,rfl,rfl⟩:=hq
    obtain⟨k1,ev1,hvr⟩:=Fv s2.ok prot e1
    exact hn ds a2 w2 F2 M2 hds ⟨k1,λk y hy=>hvr y _ (λid hid=>EO hy hid) (s2.env k y hy),s2.size,s2.defers⟩ dk (ev2.trans s2.ok ev1)
  | exit j=>
    simp only[sweepX,aH,Prod.mk.injEq]at hq
    obtain⟨rfl,rfl,rfl⟩:=hq
    exact hn ds a2 w2 F2 M2 hds s2 dk ev2
  | ret=>
    simp only[sweepX,aH,Prod.mk.injEq]at hq
    obtain⟨rfl,rfl,rfl⟩:=hq
    exact hn ds a2 w2 F2 M2 hds s2 dk ev2
theorem aff{r:Option Nat}{c:Code}{body:Env→Heap→Option (Ex×Env×Heap)}(hb:uI P N r prot c body): ∀ n {B:Nat} {ds:List Deferred} {w:World} {F:Nat→Prop} {h:Heap} {M:Id→Option Nat} {e:Env} {a:Act} {x:Ex} {e':Env} {h':Heap} {Q:Exit→Act→World→Prop},St (N.wd ds) w F h M e a→oI B w F ds→tK prot body n e h=some (x,e',h')→
    (∀ ds' a' w' F' M',(jg c=true->ds'=ds)->St (N.wd ds') w' F' h' M' e' a'->oI B w' F' ds'->bn (Kp prot) w F h M w' F' h' M'->Q x.FC a' w')->Code.roundsIn (Fw r) 0 P c Q n a w:=by
  intro n
  induction n with
  |zero=>intro B ds w F h M e a x e' h' Q st dk hq _;simp[tK]at hq
  | succ n ih=>
    intro B ds w F h M e a x e' h' Q st dk hq hn
    simp only[tK,aA,Prod.exists]at hq
    obtain⟨x1,e1,h1,hbody,hq⟩:=hq
    obtain⟨k1,ev1,hvr⟩:=Fv st.ok prot e
    have st1:St (N.wd ds) w F (sweep prot e h) M e a:=⟨k1,λk y hy=>hvr y _ (λid hid=>EO hy hid) (st.env k y hy),st.size,st.defers⟩
    have ev1':bn (Kp prot) w F h M w F (sweep prot e h) M:=ev1
    refine hb st1 dk hbody λds2 a2 w2 F2 M2 d2 s2 dk2 ev2=> ?_
    cases x1 with
    |normal=>exact ih s2 dk2 hq λds3 a3 w3 F3 M3 d3 s3 dk3 ev3=>hn ds3 a3 w3 F3 M3 (λh=>(d3 h).trans (d2 h)) s3 dk3 ((ev1'.trans k1 ev2).trans s2.ok ev3)
    | exit id=>
      simp only[aH,Prod.mk.injEq]at hq
      obtain⟨rfl,rfl,rfl⟩:=hq
      exact hn ds2 a2 w2 F2 M2 d2 s2 dk2 (ev1'.trans k1 ev2)
    | ret=>
      simp only[aH,Prod.mk.injEq]at hq
      obtain⟨rfl,rfl,rfl⟩:=hq
      exact hn ds2 a2 w2 F2 M2 d2 s2 dk2 (ev1'.trans k1 ev2)
theorem afe{r:Option Nat}{c:Code}{body:Env→Heap→Option (Ex×Env×Heap)}(hb:uI P N r prot c body)(n:Nat):uI P N r prot (.loop c) (tK prot body n):=
  λst dk hq hn=>wpIn_loop_rounds n (aff hb n st dk hq hn)
def TS(Q:Exit->Act->World->Prop)(e:Exit)(a:Act)(w:World):Prop:=e≠ .outgrown/\Q e a w
theorem abd{Q:Exit->Act->World->Prop}: ¬ LetsOut (TS Q):=λ⟨_,_,h,_⟩=>h rfl
theorem CX{b:Frame}{a:Act}{k:List Item}{cs:List Frame}{w:World}{c:Code}:step P (lone (b.atR a (.code (.scope c)::k)) cs w)= .next (lone (b.atR a (.code c:: .inScope c::k)) cs w):=
  step_lone_go (by simp[stepG,stepG.exec,Frame.atR])
theorem azv{b:Frame}{a:Act}{k:List Item}{cs:List Frame}{w:World}{c:Code}:step P (lone (b.atR a (.inScope c::k)) cs w)= .next (lone (b.atR a k) cs w):=
  step_lone_go (by simp[stepG,stepG.exec,Frame.atR])
theorem ZU{id:Nat}{k:List Item}{c:Code}:exitTo id (.inScope c::k)=exitTo id k:=by simp[exitTo]
theorem aAQ{F:Fence}{n:Nat}{Q:Exit→Act→World→Prop}{a:Act}{w:World}{c:Code}(h:c.wpIn F n P (Exit.noGoto Q) a w):(Code.scope c).wpIn F n P Q a w:=by
  intro b k cs hro hb hr
  have h0:(lone (b.atR a (.code (.scope c)::k)) cs w).fenced P F:=fenced_calm hb hr rfl
  obtain⟨e,a₁,w₁,hq,harr⟩:=h b (.inScope c::k) cs hro hb hr
  cases e with
  |normal=>exact⟨.normal,a₁,w₁,hq,.head h0 CX (StepsIn.trans harr (.one (fenced_calm hb hr rfl) azv))⟩
  |exit id=>exact⟨.exit id,a₁,w₁,hq,fun k' hk=> .head h0 CX (harr.1 k' (by rw[ZU];exact hk)),
      λhr' hk=>let ⟨k₁,h1,h2⟩:=harr.2 hr' (by rw[ZU];exact hk);⟨k₁,h1,.head h0 CX h2⟩⟩
  |goto l=>exact hq.elim
  |ret=>exact⟨_,a₁,w₁,hq,.of_steps (.one h0 CX) harr⟩
  |panic ch=>exact⟨_,a₁,w₁,hq,.of_steps (.one h0 CX) harr⟩
  |outgrown=>exact⟨_,a₁,w₁,hq,.of_steps (.one h0 CX) harr⟩
def Oh(h:Heap)(M:Id->Option Nat)(b:Nat):Prop:= ∃ id x,h.get id=some x/\x.rw=true/\M id=some b
theorem TK: ∀ (h:Heap) (id:Id) (x:ak),h.get id=some x→mP (keys h) id=true
  |[],id,x,hx=>by cases hx
  | (j,b)::h,id,x,hx=>by
    simp only[Heap.get]at hx
    simp only[keys,mP]
    split at hx
    · rename_i hj;rw[if_pos hj]
    · rename_i hj;rw[if_neg hj];exact TK h id x hx
theorem bn.all{w w':World}{F F':Nat→Prop}{h h':Heap}{M M':Id→Option Nat}{K K':Id→Prop}(a:bn K w F h M w' F' h' M')(hK: ∀ id x,h.get id=some x→K id):bn K' w F h M w' F' h' M':=
  ⟨a.os,a.tape,a.output,a.size,a.keep,a.fsub,a.fold,a.orig,λid x hx _=>a.held id x hx (hK id x hx)⟩
theorem ap8{w w1 w2:World}(a:w.grownBy w1 none)(b:w1.grownBy w2 none):w.grownBy w2 none:=
  ⟨b.os.trans a.os,b.tape.trans a.tape,b.output.trans a.output,Nat.le_trans a.size b.size,λk hk hn=>(b.block k (Nat.lt_of_lt_of_le hk a.size) hn).trans (a.block k hk hn)⟩
structure RJ (asg body:Env→Heap→Option (Ex×Env×Heap)) (K0:List Id) (e0:Env) (ps:List Tmp) (ys:List AV) (hE:Heap) (l D:Nat) (rec:Loop) (W:World) (F0:Nat→Prop) (h0:Heap) (M0:Id→Option Nat)
    (i:Nat) (w:World) (F O:Nat->Prop):Prop where
  ex: ∃ h2 M2,DK K0 asg body e0 ps (ys.drop i) h2=some hE/\aQ w.heap F h2 M2/\(∀ b,O b ↔ Oh h2 M2 b)/\bn (Kp K0) W F0 h0 M0 w F h2 M2
  loop:w.heap[l]? =some (.loop rec)
  defd:w.heap[D]? =some (.deferred (some []))
  fl: ¬ F l
  fd: ¬ F D
theorem axQ{asg body:Code}{fA fB:Env→Heap→Option (Ex×Env×Heap)}{K0:List Id}{l D:Nat}(hA:uI P N (some l) K0 asg fA)(hB:uI P N (some l) K0 body fB)
    {e0:Env} {ps:List Tmp} {ys:List AV} {hE:Heap} {rec:Loop} {W:World} {F0:Nat->Prop} {h0:Heap} {M0:Id->Option Nat} (hrec:rec={state:= .ready,pending:=none,fn:=rec.fn,tmps:=rec.tmps,params:=⟨ps⟩,assign:=asg,body:=body,defers:=rec.defers})
    (hK0: ∀ id x,h0.get id=some x->Kp K0 id) (hk0:aQ W.heap F0 h0 M0) (env0:fK W.heap F0 h0 M0 e0.get ⟨rec.tmps,[]⟩) (size0:rX (N.wd []) ⟨rec.tmps,[]⟩) (hps: ∀ p ∈ ps,Ac N p)
    {i:Nat} {zs:List AV} {vs:List Value} {w2:World} {F2 O2:Nat->Prop} (hy:ys[i]? =some (.tuple zs)) (hj:RJ fA fB K0 e0 ps ys hE l D rec W F0 h0 M0 i w2 F2 O2) (hl:zs.length=vs.length)
    (hv: ∀ (j:Nat) x u,zs[j]? =some x->vs[j]? =some u->VC w2.heap F2 x u):
    ∃ fn tmps assign bd,(Instr.yield l vs.toArray).run P w2= .ok (.round l fn tmps assign bd) w2∧RoundIn Fence.wide 0 P l fn tmps assign bd w2 fun e w5=>e= .returned (.bool true)∧
      ∃ F5 O5,RJ fA fB K0 e0 ps ys hE l D rec W F0 h0 M0 (i+1) w5 F5 O5/\uJ (λb=> ¬ O2 b) w2 F2 w5 F5/\(∀ b,O5 b->b<w2.heap.size->O2 b)/\ ∀ b,O5 b->b<w5.heap.size/\ ¬ F5 b:=by
  obtain⟨⟨h2,M2,har,hk2,hO,ev2⟩,hloop,hdefd,hfl,hfd⟩:=hj
  have hi:i<ys.length:=(List.getElem?_eq_some_iff.1 hy).1
  have hdrop:ys.drop i= .tuple zs::ys.drop (i+1):=by
    rw[List.drop_eq_getElem_cons hi]
    rw[List.getElem?_eq_getElem hi]at hy
    injection hy with hy
    rw[hy]
  rw[hdrop]at har
  simp only[DK,adI,Option.bind_some]at har
  split at har
  case isFalse=>cases har
  rename_i hzl
  simp only[aA,Prod.exists]at har
  obtain⟨x1,e1,h1,hA1,har⟩:=har
  cases x1 with
  |exit j=>cases har
  |ret=>cases har
  |normal=>
  simp only[aA,Prod.exists]at har
  obtain⟨x3,e3,h3,hB1,har⟩:=har
  cases x3 with
  |exit j=>cases har
  |ret=>cases har
  |normal=>
  simp only at har
  have hpar:rec.params=⟨ps⟩:=by rw[hrec]
  have hasg:rec.assign=asg:=by rw[hrec]
  have hbd:rec.body=body:=by rw[hrec]
  have hy0:=run_yield (P:=P) (args:=vs.toArray) hloop (by rw[hpar];simp;omega)
  have hfold:(rec.params.zip vs.toArray).foldl (fun tmps (t,a)=>tmps.setIfInBounds t a) rec.tmps=(ps.zip vs).foldl (fun t p=>t.setIfInBounds p.1 p.2) rec.tmps:=by
    rw[hpar,← Array.foldl_toList]
    simp
  rw[hfold,hasg,hbd]at hy0
  refine⟨_,_,_,_,hy0,roundIn_of_wpIn trivial ?_⟩
  have evA:bn All W F0 h0 M0 w2 F2 h2 M2:=ev2.all hK0
  obtain⟨hs1,hs2⟩:=adc (N:=N) (Rn hk0 evA env0) size0 hps hzl hl λj x u a b=> .c (hv j x u a b)
  have st2:St (N.wd []) w2 F2 h2 M2 (Nj e0 ps zs) ⟨(ps.zip vs).foldl (λt p=>t.setIfInBounds p.1 p.2) rec.tmps,[]⟩:=⟨hk2,hs1,hs2,rfl⟩
  refine hA (B:=0) st2 ⟨Nat.zero_le _,trivial⟩ hA1 λds3 a3 w3 F3 M3 _ s3 dk3 ev3=> ?_
  have hl3:=ev3.obj hk2 hloop rfl
  have hfl3:=ev3.Mc hk2 hloop rfl hfl
  have hlt3:l<w3.heap.size:=(Array.getElem?_eq_some_iff.1 hl3).1
  refine⟨_,run_beginRound hl3 (by rw[hrec]),?_⟩
  obtain⟨k3,v3,_⟩:=MK s3.ok (.loop {rec with state:= .busy}) hl3 rfl hfl3
  have dk3':oI 0 (w3.putObj l (.loop {rec with state:= .busy})) F3 ds3:=dk3.put fun hm=>by
    have:=dk3.lt hm;rw[hl3]at this;cases this
  refine hB ⟨k3,λk x hx=>v3 _ _ (s3.env k x hx),s3.size,s3.defers⟩ dk3' hB1 λds4 a4 w4 F4 M4 _ s4 dk4 ev4=> ?_
  have hl3b:(w3.putObj l (.loop {rec with state:= .busy})).heap[l]? =some (.loop {rec with state:= .busy}):=World.putObj_heap_same hlt3
  have hl4:=ev4.obj k3 hl3b rfl
  have hfl4:=ev4.Mc k3 hl3b rfl hfl3
  have hlt4:l<w4.heap.size:=(Array.getElem?_eq_some_iff.1 hl4).1
  have hr4:=run_endRound (P:=P) none hl4
  have hrr:({{rec with state:= .busy}with state:=if(none:Option Code).isNone then .ready else .done,pending:=none}:Loop)=rec:=by rw[hrec];rfl
  rw[hrr]at hr4
  refine⟨_,_,hr4,rfl,?_⟩
  have ev35:=amH (o0:= .loop rec) s3.ok hl3 rfl ev4
  obtain⟨k5,v5,_⟩:=MK s4.ok (.loop rec) hl4 rfl hfl4
  obtain⟨k6,ev6,_⟩:=Fv k5 K0 e0
  have ev25:bn (Kp K0) w2 F2 h2 M2 (w4.putObj l (.loop rec)) F4 (sweep K0 e0 h3) M4:=(ev3.trans s3.ok ev35).trans k5 ev6
  refine⟨F4,Oh (sweep K0 e0 h3) M4,⟨⟨_,M4,har,k6,λb=>Iff.rfl,ev2.trans hk2 ev25⟩,World.putObj_heap_same hlt4,?_,hfl4,?_⟩,ev25.aab k6 λid x b hg hr hm hno=>hno ((hO b).2 ⟨id,x,hg,hr,hm⟩),?_,?_⟩
  · exact ev25.obj hk2 hdefd rfl
  · exact ev25.Mc hk2 hdefd rfl hfd
  · rintro b ⟨id,x,hg,hr,hm⟩ hlt
    rcases ev25.orig id x hg hr with⟨y,hy1,hy2,hy3⟩|h
    · exact(hO b).2 ⟨id,y,hy1,hy2,hy3 ▸ hm⟩
    · have:=h b hm;omega
  · rintro b ⟨id,x,hg,hr,hm⟩
    exact⟨k6.lt hg hm,k6.BP hg hr hm⟩
theorem axp(hci:eH P ci){n:Nat}{g:Operand}{ps:List Tmp}{asg body:Code}(hA: ∀ l K,uI P N (some l) K asg (exec P C cp ci lvl K D n asg))(hB: ∀ l K,uI P N (some l) K body (exec P C cp ci lvl K D n body))
    (hps:ps.all (λp=>decide (p<N.n)&&(N.y.isNone || p != 0))=true):uI P N none prot (.rangeFunc g ⟨ps⟩ asg body) (exec P C cp ci lvl prot D n (.rangeFunc g ⟨ps⟩ asg body)):=by
  intro B ds w F h M e a x e' h' Q st dk hq hn
  simp only[exec,aA,Prod.exists]at hq
  obtain⟨gv,hgv,k,first,cap,hfn,xs,hxs,hq⟩:=hq
  split at hq
  case isFalse=>cases hq
  rename_i hfe
  simp only[aA,Prod.exists,aH,Prod.mk.injEq]at hq
  obtain⟨r,h9,hci0,ys,hys,hE,har,rfl,rfl,rfl⟩:=hq
  have hgf:gv= .fn k first cap:=by
    unfold qX at hfn;split at hfn
    · injection hfn with hfn;injection hfn with h1 h2;injection h2 with h2 h3;rw[h1,h2,h3]
    · cases hfn
  subst hgf
  obtain rfl:first=[]:=by simpa using hfe
  obtain⟨us,vs,hgu,l0,_,hvl,hvx⟩:=(gV st.env hgv).qA
  obtain rfl:us=[]:=by cases us with|nil=>rfl|cons=>simp at l0
  obtain⟨F1,k1,ev1,lx,hxv⟩:=ayC st.ok hvl hvx hxs
  have hps': ∀ p ∈ ps,Ac N p:=fun p hp=>by
    have:=List.all_eq_true.1 hps p hp
    simp only[Bool.and_eq_true,Bool.or_eq_true,decide_eq_true_eq,bne_iff_ne,ne_eq]at this
    refine⟨this.1,λhy=> ?_⟩
    rcases this.2 with h2|h2
    · rw[Option.isNone_iff_eq_none]at h2;rw[h2]at hy;cases hy
    · exact h2
  have hrn:r= .newbx ys:=by
    unfold adb at hys;split at hys
    · injection hys with hys;rw[hys]
    · cases hys
  subst hrn
  have hit:Vg P k xs ys:=by
    rcases hci _ _ _ _ _ _ hci0 with(hinl|⟨_,hxt⟩)|⟨_,ys',he,hit⟩
    · obtain⟨e9,w9,fr,⟨u,F9,M9,_,_,_,hv9⟩,_⟩:=hinl.2 w F1 M vs k1 lx (fun i x u a b=> .c (hxv i x u a b)) []
      cases hv9 with
      |c hc=>cases hc
    · obtain⟨u9,_,hv9⟩:=hxt w F1 _ M vs k1 lx (fun i x u a b=> .c (hxv i x u a b))
      cases hv9 with
      |c hc=>cases hc
    · injection he with he;rw[he];exact hit
  obtain⟨⟨fn9,hf1,hf2,hf3⟩,hit⟩:=hit
  refine wpIn_rangeFunc ?_
  intro fn _
  obtain⟨rec,hrec⟩: ∃ rec:Loop,rec={state:= .ready,pending:=none,fn,tmps:=a.tmps,params:=⟨ps⟩,assign:=asg,body,defers:=w.heap.size}:=⟨_,rfl⟩
  obtain⟨W1,hW1⟩: ∃ W1,(w.alloc (.deferred (some []))).alloc (.loop rec)=W1:=⟨_,rfl⟩
  have hg1:w.grownBy W1 none:=by rw[← hW1];exact ap8 (World.grownBy_alloc w _ none) (World.grownBy_alloc _ _ none)
  have hL1:W1.heap[w.heap.size+1]? =some (.loop rec):=by
    rw[← hW1];have:=World.alloc_heap_new (w.alloc (.deferred (some []))) (.loop rec);rwa[World.size_alloc]at this
  have hD1:W1.heap[w.heap.size]? =some (.deferred (some [])):=by
    rw[← hW1];exact(Go.RowKit.Below.heap_alloc _ _ _ (by simp)).trans (World.alloc_heap_new w _)
  obtain⟨kW,evW⟩:=aak k1 hg1
  have evW1:bn All w F h M W1 F1 (nD h cap) M:=ev1.trans k1 evW
  have hFlt: ∀ b,w.heap.size<=b-> ¬ F1 b:=λb hb hF=>by have:=k1.fb b hF;omega
  refine⟨w.heap.size+1,[mark w.heap.size],W1,{target:= .fn (.func k) ⟨vs⟩,args:= #[.func (.yield (w.heap.size+1)) #[] #[]]},W1,k,(.func (.yield (w.heap.size+1)) #[] #[]::vs).toArray,W1,?_,?_,λ_ _=>trivial,?_,λhd=>by simp[Fw,Fence.wide]at hd,?_⟩
  · show(Instr.enterLoop fn a.tmps ⟨ps⟩ asg body none).run P w=_
    rw[run_enterLoop_outer,← hrec,hW1];rfl
  · simp only[resolve,hgu]
    simp[go_sem]
  · have hf2': ¬ fn9.name= "runtime.NumGoroutine" :=by simpa using hf2
    have hf3': ¬ fn9.body=none:=by intro hh;rw[hh]at hf3;cases hf3
    simp[invoke,callFunc,hf1,hf2',hf3']
  · have env1:fK W1.heap F1 (nD h cap) M e.get ⟨rec.tmps,[]⟩:=by
      rw[hrec];exact Rn st.ok evW1 st.env
    have size1:rX (N.wd []) ⟨rec.tmps,[]⟩:=by rw[hrec];exact st.size
    have hK0: ∀ id x,(nD h cap).get id=some x->Kp (keys (nD h cap)) id:=λid x hx=>TK _ id x hx
    refine(Xx (r:=none) (n:=0) (hit W1 F1 vs (w.heap.size+1) (RJ (exec P C cp ci lvl (keys (nD h cap)) D n asg) (exec P C cp ci lvl (keys (nD h cap)) D n body) (keys (nD h cap)) e ps ys hE (w.heap.size+1) w.heap.size rec W1 F1 (nD h cap) M)
      (Oh (nD h cap) M) kW.fb lx (λi x u a b=>(hxv i x u a b).keep (λ_ h=>h) λb hb=>evW.Td k1 b hb) ?_ ?_ ?_ ?_)).mono ?_
    · rintro i wa Fa Oa wb Fb ⟨⟨h2,M2,har2,hk2,hO2,ev2⟩,q1,q2,q3,q4⟩ fg
      have kO: ∀ id x b,h2.get id=some x->x.rw=true->M2 id=some b->(b<W1.heap.size∨Fa b∨Oa b):=λid x b hg hr hm=> .inr (.inr ((hO2 b).2 ⟨id,x,hg,hr,hm⟩))
      have hlL:w.heap.size+1<W1.heap.size:=(Array.getElem?_eq_some_iff.1 hL1).1
      have hla:w.heap.size+1<wa.heap.size:=(Array.getElem?_eq_some_iff.1 q1).1
      refine⟨⟨h2,M2,har2,(aac hk2 fg (λb hb=> .inr (.inl hb)) kO).1,hO2,ZQ ev2 hk2 fg (λb hb=> .inr (.inl hb)) kO λb hb=> .inl hb⟩,?_,?_,λhf=> ?_,λhf=> ?_⟩
      · rw[fg.same _ hla (.inl hlL)];exact q1
      · rw[fg.same _ ae (.inl ae)];exact q2
      · exact q3 (fg.fold _ hf hla (.inl hlL))
      · exact q4 (fg.fold _ hf ae (.inl ae))
    · intro i zs vs2 wa Fa Oa hyi hj _ _ hzl hzv
      exact axQ (N:=N) (hA _ _) (hB _ _) (by rw[hrec]) hK0 kW env1 size1 hps' hyi hj hzl hzv
    · exact⟨⟨_,M,by simpa using har,kW,λb=>Iff.rfl,.refl⟩,hL1,hD1,hFlt _ ae,hFlt _ ae⟩
    · rintro b ⟨id,x,hg,hr,hm⟩;exact⟨kW.lt hg hm,kW.BP hg hr hm⟩
    · rintro e9 w9 ⟨v,F9,O9,rfl,⟨h2,M2,har2,hk2,hO2,ev2⟩,q1,q2,q3,q4⟩
      rw[List.drop_length]at har2
      simp only[DK,aH]at har2
      subst har2
      have hpn:rec.pending=none:=by rw[hrec]
      have hrun:=run_endLoop (P:=P) q1 (by rw[hrec];simp)
      rw[hpn]at hrun
      refine⟨none,_,hrun,?_⟩
      have evA:bn All W1 F1 (nD h cap) M w9 F9 h2 M2:=ev2.all hK0
      obtain⟨k9,v9,_⟩:=MK hk2 (.loop {rec with state:= .exhausted,pending:=none}) q1 rfl q3
      have evT:=(evW1.trans kW evA)
      have evT2:=ZR hk2 evT (.loop {rec with state:= .exhausted,pending:=none}) q1 rfl q3 ae
      refine hn (mark w.heap.size::ds) _ _ F9 M2 (λh=>by cases h) ⟨k9,λk x hx=>v9 _ _ (evT.vr st.ok (st.env k x hx)),st.size,?_⟩ ⟨Nat.le_trans dk.1 evT2.size,⟨w.heap.size,rfl,?_,q4,λhm=> ?_,dk.1⟩,?_⟩ (evT2.weaken λ_ _=>trivial)
      · show [mark w.heap.size]++a.defers=_
        rw[st.defers];rfl
      · rw[World.putObj_heap_other ae];exact q2
      · have:=dk.lt hm
        have:=(Array.getElem?_eq_some_iff.1 this).1
        omega
      · refine oH.put (fun hm=> ?_) (dk.jS st.ok evT).2
        have:=dk.lt hm
        have:=(Array.getElem?_eq_some_iff.1 this).1
        omega
theorem sJ(hm:P.follows .mixedOrders=true)(hcp:aK P cp)(hci:eH P ci)(n:Nat)(r:Option Nat): ∀ c prot,(r=none∨jg c=true)→codeOk N D c=true→uI P N r prot c (exec P C cp ci lvl prot D n c)
  | .skip,_,_,_=>fun st dk hq hn=>by
    simp only[exec,aH,Prod.mk.injEq]at hq
    obtain⟨rfl,rfl,rfl⟩:=hq
    exact wpIn_skip (hn _ _ _ _ _ (λ_=>rfl) st dk .refl)
  | .label l,_,_,_=>fun st dk hq hn=>by
    simp only[exec,aH,Prod.mk.injEq]at hq
    obtain⟨rfl,rfl,rfl⟩:=hq
    exact wpIn_label (hn _ _ _ _ _ (λ_=>rfl) st dk .refl)
  | .exit id,_,_,_=>fun st dk hq hn=>by
    simp only[exec,aH,Prod.mk.injEq]at hq
    obtain⟨rfl,rfl,rfl⟩:=hq
    exact wpIn_exit (hn _ _ _ _ _ (λ_=>rfl) st dk .refl)
  | .ret,_,_,_=>fun st dk hq hn=>by
    simp only[exec,aH,Prod.mk.injEq]at hq
    obtain⟨rfl,rfl,rfl⟩:=hq
    exact wpIn_ret (hn _ _ _ _ _ (λ_=>rfl) st dk .refl)
  | .region id ⟨ops⟩ false,prot,_,hc=>fun st dk hq hn=>by
    simp only[exec,aA,Prod.exists,aH,Prod.mk.injEq]at hq
    obtain⟨e1,h1,hops,e2,h2,hp,rfl,rfl,rfl⟩:=hq
    simp only[codeOk,Bool.and_eq_true]at hc
    refine wpIn_mono (Q:=TS _) (wpIn_region_list (TB abd ops (λo ho=>ZO (List.all_eq_true.1 hc.1 o ho)) (wG hcp hci ops st hc.1 hops λa' w' F' M' s' ev=>⟨(by intro h;cases h),?_⟩))) λ_ _ _ h=>h.2
    obtain⟨F2,M2,s2,ev2⟩:=sQ _ (s'.drop _) hp
    have dk':=dk.jS st.ok ev
    exact hn _ a' w' F2 M2 (λ_=>rfl) s2 (dk'.jS s'.ok ev2) ((ev.weaken λ_ _=>trivial).trans s'.ok ev2)
  | .region id ⟨ops⟩ true,prot,_,hc=>fun st dk hq hn=>by
    simp only[exec,aA,Prod.exists,aH,Prod.mk.injEq]at hq
    obtain⟨e1,h1,hops,e2,h2,hp,rfl,rfl,rfl⟩:=hq
    simp only[codeOk,Bool.and_eq_true,Bool.not_true,Bool.false_or]at hc
    refine wpIn_mono (Q:=TS _) (al5 hm hcp hci st hc.2 hc.1 hops abd λa' w' F' M' s' ev=>⟨(by intro h;cases h),?_⟩) λ_ _ _ h=>h.2
    obtain⟨F2,M2,s2,ev2⟩:=sQ _ (s'.drop _) hp
    have dk':=dk.jS st.ok ev
    exact hn _ a' w' F2 M2 (λ_=>rfl) s2 (dk'.jS s'.ok ev2) ((ev.weaken λ_ _=>trivial).trans s'.ok ev2)
  | .seq x y,prot,hr,hc=>fun st dk hq hn=>by
    simp only[codeOk,Bool.and_eq_true]at hc
    have hr':(r=none∨jg x=true)∧(r=none∨jg y=true):=by
      rcases hr with h|h
      · exact⟨.inl h,.inl h⟩
      · simp only[jg,Bool.and_eq_true]at h;exact⟨.inr h.1,.inr h.2⟩
    simp only[exec,aA,Prod.exists]at hq
    obtain⟨x1,e1,h1,hx,hq⟩:=hq
    refine wpIn_seq (sJ hm hcp hci n r x prot hr'.1 hc.1 st dk hx λds2 a2 w2 F2 M2 d2 s2 dk2 ev2=> ?_)
    cases x1 with
    |normal=>exact sJ hm hcp hci n r y prot hr'.2 hc.2 s2 dk2 hq λds3 a3 w3 F3 M3 d3 s3 dk3 ev3=>hn ds3 a3 w3 F3 M3 (λh=>by simp only[jg,Bool.and_eq_true]at h;exact(d3 h.2).trans (d2 h.1)) s3 dk3 (ev2.trans s2.ok ev3)
    | exit id=>
      simp only[aH,Prod.mk.injEq]at hq
      obtain⟨rfl,rfl,rfl⟩:=hq
      exact hn ds2 a2 w2 F2 M2 (λh=>by simp only[jg,Bool.and_eq_true]at h;exact d2 h.1) s2 dk2 ev2
    | ret=>
      simp only[aH,Prod.mk.injEq]at hq
      obtain⟨rfl,rfl,rfl⟩:=hq
      exact hn ds2 a2 w2 F2 M2 (λh=>by simp only[jg,Bool.and_eq_true]at h;exact d2 h.1) s2 dk2 ev2
  | .cond c x y,prot,hr,hc=>fun st dk hq hn=>by
    simp only[codeOk,Bool.and_eq_true]at hc
    have hr':(r=none∨jg x=true)∧(r=none∨jg y=true):=by
      rcases hr with h|h
      · exact⟨.inl h,.inl h⟩
      · simp only[jg,Bool.and_eq_true]at h;exact⟨.inr h.1,.inr h.2⟩
    simp only[exec,aA]at hq
    obtain⟨v,hv,hq⟩:=hq
    have hvr:=gV st.env hv
    split at hq
    · have hb:=hvr.fJ
      split at hq
      · rename_i ht
        subst ht
        simp only[aA,Prod.exists]at hq
        obtain⟨x1,e1,h1,hx,hq⟩:=hq
        exact wpIn_cond_true hb (sJ hm hcp hci n r x prot hr'.1 hc.1 st.qy dk hx λds2 a2 w2 F2 M2 d2 s2 dk2 ev2=>adq (p:=jg (.cond c x y)=true) hq (λh=>by simp only[jg,Bool.and_eq_true]at h;exact d2 h.1) s2 dk2 ev2 hn)
      · rename_i ht
        rw[Bool.eq_false_iff.mpr ht]at hb
        simp only[aA,Prod.exists]at hq
        obtain⟨x1,e1,h1,hx,hq⟩:=hq
        exact wpIn_cond_false hb (sJ hm hcp hci n r y prot hr'.2 hc.2 st.qy dk hx λds2 a2 w2 F2 M2 d2 s2 dk2 ev2=>adq (p:=jg (.cond c x y)=true) hq (λh=>by simp only[jg,Bool.and_eq_true]at h;exact d2 h.2) s2 dk2 ev2 hn)
    · cases hq
  | .block id c,prot,hr,hc=>fun st dk hq hn=>by
    simp only[codeOk]at hc
    simp only[jg]at hr
    simp only[exec,aA,Prod.exists]at hq
    obtain⟨x1,e1,h1,hx,hq⟩:=hq
    refine wpIn_block (sJ hm hcp hci n r c prot hr hc st dk hx λds2 a2 w2 F2 M2 d2 s2 dk2 ev2=> ?_)
    cases x1 with
    | normal=>
      simp only[aA,Prod.exists,aH,Prod.mk.injEq]at hq
      obtain⟨e3,h3,hp,rfl,rfl,rfl⟩:=hq
      obtain⟨F3,M3,s3,ev3⟩:=sQ _ (s2.drop _) hp
      exact hn ds2 a2 w2 F3 M3 d2 s3 (dk2.jS s2.ok ev3) (ev2.trans s2.ok ev3)
    | exit j=>
      simp only at hq
      simp only[Ex.FC,Exit.inBlock]
      split at hq
      · rename_i hj
        simp only[aA,Prod.exists,aH,Prod.mk.injEq]at hq
        obtain⟨e3,h3,hp,rfl,rfl,rfl⟩:=hq
        obtain⟨F3,M3,s3,ev3⟩:=sQ _ (s2.drop _) hp
        rw[if_pos hj]
        exact hn ds2 a2 w2 F3 M3 d2 s3 (dk2.jS s2.ok ev3) (ev2.trans s2.ok ev3)
      · rename_i hj
        simp only[aH,Prod.mk.injEq]at hq
        obtain⟨rfl,rfl,rfl⟩:=hq
        rw[if_neg hj]
        exact hn ds2 a2 w2 F2 M2 d2 s2 dk2 ev2
    | ret=>
      simp only[aH,Prod.mk.injEq]at hq
      obtain⟨rfl,rfl,rfl⟩:=hq
      exact hn ds2 a2 w2 F2 M2 d2 s2 dk2 ev2
  | .loop c,prot,hr,hc=>fun st dk hq hn=>by
    simp only[codeOk]at hc
    simp only[jg]at hr
    exact afe (sJ hm hcp hci n r c prot hr hc) n st dk hq hn
  | .scope c,prot,hr,hc=>fun st dk hq hn=>by
    simp only[codeOk]at hc
    simp only[jg]at hr
    refine aAQ (sJ hm hcp hci n r c prot hr hc st dk hq λds2 a2 w2 F2 M2 d2 s2 dk2 ev2=> ?_)
    have:=hn ds2 a2 w2 F2 M2 d2 s2 dk2 ev2
    rename_i xx _ _ _
    cases xx <;> exact this
  | .rangeFunc g ⟨ps⟩ asg body,prot,hr,hc=>by
    obtain rfl:r=none:=hr.resolve_right λh=>by simp[jg]at h
    simp only[codeOk,Bool.and_eq_true]at hc
    exact axp hci (λl K=>sJ hm hcp hci n (some l) asg K (.inr hc.1.1.2) hc.1.1.1.1) (λl K=>sJ hm hcp hci n (some l) body K (.inr hc.1.2) hc.1.1.1.2) hc.2
  | .goto _,_,_,hc=>by cases hc
  | .refuse _,_,_,hc=>by cases hc
end
end Go.Av
