/- Operations that turn rows. Conditions: none. -/
import Derived.Test.YtiagecndhhinfaaGreatSe3
import Derived.Laws.CopyRow
set_option linter.unusedVariables false
namespace Go.Av
section
variable {P:Program} {w:World} {F:Nat->Prop} {h:Heap} {M:Id->Option Nat}
theorem C9(hk:aQ w.heap F h M){w':World}(hg:w.grownBy w' none){t y:AV}{u:Value}{bs:List Nat}(ht:TR w'.heap (VC w'.heap F) (VR w'.heap F h M) t u bs)(hnd:bs.Nodup)
    (hbs: ∀ b ∈ bs,w.heap.size<=b/\b<w'.heap.size) {lvl slot d k k':Nat} {h':Heap} (e:bC lvl slot d t (k,h)=some (y,k',h')):
    ∃ M',aQ w'.heap F h' M'/\bn All w F h M w' F h' M'/\VR w'.heap F h' M' y u:=by
  obtain⟨k1,ev1⟩:=aak hk hg
  obtain⟨M',im,hv⟩:=aax lvl slot d t u bs k h M y k' h' ht k1 hnd (fun b hb hF=>by have:=hk.fb b hF;have:=(hbs b hb).1;omega)
    (λb hb id x hx hm=>by have:=hk.lt hx hm;have:=(hbs b hb).1;omega) e
  exact⟨M',im.ok,im.jS hg.size (λb hb=>(hbs b hb).1) ev1 k1,hv⟩
theorem axW{t e ty t':TypeId}{i:TypeInfo}{z:Value}{k k':IntKind}{n:Int}(ht:P.underlying t=some (.slice e))(ht':P.underlying t'=some (.int k'))(hi:P.info? e=some i)(hz:i.zero=some z)
    (h0:0<n) (h47:n<=2 ^ 47) (hfit:n*i.bytes<=2 ^ 47) (hsz:0<i.size):
    (Builtin.append_ #[t,t'] ty #[.slice none 0 0,.int k n]).run P w=
      .ok (.slice (some ⟨w.heap.size,0,none⟩) n.toNat (grownCap w n.toNat 0 e)) (w.drew.alloc (.cells (Builtin.zeroCells z.cells n.toNat++Builtin.zeroCells z.cells (grownCap w n.toNat 0 e - n.toNat)) e)):=by
  obtain⟨m,rfl⟩:=Int.eq_ofNat_of_zero_le (Int.le_of_lt h0)
  have hw:IntKind.i64.wrap (m:Int)=(m:Int):=by
    simp[IntKind.wrap,IntKind.signed,IntKind.bits]
    omega
  have hm:m≠0:=ae
  have hm2: ¬ (m*i.size=0):=λe=>by rcases Nat.mul_eq_zero.1 e with e|e <;> omega
  have h48: ¬ ((281474976710656:Int)<(m:Int)*(i.bytes:Int)):=ae
  have h63: ¬ ((9223372036854775807:Int)<(m:Int)):=ae
  have hfit':(0+m)*i.bytes<=2 ^ 47:=by rw[Nat.zero_add];have:=hfit;rw[← Int.natCast_mul]at this;omega
  have hnc:=growslice_fits (need:=0+m) (old:=0) (bytes:=i.bytes) ae ae
  rw[Nat.zero_add]at hnc
  have h48': ¬ (281474976710656<Builtin.nextslicecap m 0*i.bytes):=ae
  simp[Builtin.append_,run_underlying ht,run_underlying ht',sizeOf,typeInfo,zeroValue,hi,hz,asInt,asIntOf,hw,h48,h63,h48',hm,hm2,Question.forced,newRow,grownCap,Builtin.firstCells]
  intro hneg
  omega
theorem alb(hk:aQ w.heap F h M){dT sT el ty:TypeId}{by_:Nat}(htv:aX P dT=some (.slice el 1 by_)){x y z:AV}{u v:Value}(hu:VR w.heap F h M x u)(hv:VR w.heap F h M y v){h':Heap}(e:QY h x y=some (z,h')):
    ∃ r w' M',(Builtin.copy_ #[dT,sT] ty #[u,v]).run P w= .ok r w'/\aQ w'.heap F h' M'/\bn All w F h M w' F h' M'/\VR w'.heap F h' M' z r:=by
  unfold QY at e
  split at e
  · rename_i iv off n ext
    simp only[aA,Prod.exists]at e
    obtain⟨m,ys,hn,blk,hg,e⟩:=e
    split at e
    · rename_i ext' cells
      split at e
      · rename_i hc
        obtain⟨rfl,c1,c2,c3,c4,c5,c6⟩:=hc
        simp only[aH,Prod.mk.injEq]at e
        obtain⟨rfl,rfl⟩:=e
        have c7:inner h.get y=[]:=by simpa using c6
        obtain⟨us,hnews⟩:=TP (P:=P) hk hv hn
        rw[c7]at hnews
        have hFF:(λc=>F c∨Of h M [] c)=F:=funext λc=>propext ⟨λhc=>hc.elim (λq=>q) λ⟨j,k,hj,_⟩=>(by cases hj),.inl⟩
        rw[hFF]at hnews
        obtain⟨nl,⟨av,cv,rfl,hval⟩,nr⟩:=hnews
        obtain⟨bs,os,rfl,hsrc⟩:=hval ae
        obtain⟨a2,c,cl,rw',sz',e',cells',rfl,hg',hnc,hle,ho⟩:=hu.nZ
        rw[hg]at hg'
        injection hg' with hg'
        injection hg' with g1 g2 g3 g4 g5
        subst g1 g2 g3 g4 g5
        obtain⟨_,ho⟩:=ho rfl
        obtain⟨b,S,hM,rfl,_⟩: ∃ b S,M iv=some b/\a2=some ⟨b,off,none⟩/\mg w.heap b=some S/\off+c*1<=S:=ho.resolve_left λh=>by omega
        obtain⟨b',cur,et,hM',hb,hsz⟩:=row_of hk hg (by simp only[ak.cells];omega)
        rw[hM]at hM';injection hM' with hM';subst hM'
        simp only[ak.cells]at hsz
        obtain⟨hu1,inf,hinf,hsize,_⟩:=nH htv
        have hone: ∀ z ∈ us,z.oneCell'=true:=fun z hz=>by
          obtain⟨i,hi⟩:=List.getElem?_of_mem hz
          have hlt:i<ys.length:=by have:=(List.getElem?_eq_some_iff.1 hi).1;omega
          exact adR (nr i _ z (List.getElem?_eq_getElem hlt) hi) (List.all_eq_true.1 c5 _ (List.getElem_mem hlt))
        have hlen:off+us.length<=cur.size:=ae
        have hrun:=run_copy_row (P:=P) w dT sT ty el b off n c ⟨bs,os,none⟩ m cv cur et us hu1 (by rw[hinf];simp[hsize]) hb (by rw[← nl,c1];exact(Nat.min_eq_left c3).symm) (fun j z hj=>by
          have:=hsrc j z hj
          by_cases hj0:j=0
          · subst hj0;simpa[Addr.add]using this
          · simpa[Addr.add,hj0]using this) hlen hone
        obtain⟨q0,hrs⟩:=hk.row _ _ hg
        rcases hrs with⟨_,h1⟩|⟨b2,cur2,et2,q1,q2,q4,q5,q6⟩
        · rw[hM]at h1;cases h1
        rw[hM]at q1;injection q1 with q1;subst q1
        rw[hb]at q2;injection q2 with q2;injection q2 with q2 q2';subst q2;subst q2'
        have hsplit: ∀ i,(cur.toList.take off++us++cur.toList.drop (off+us.length)).toArray[i]? =if off≤i∧i<off+ys.length then us[i - off]? else cur[i]? :=fun i=>by
          rw[UF _ _ _ hlen,nl]
        obtain⟨r1,r2⟩:=ML hk hg rfl hM hb hlen (y:= .sl true true 1 ext' (putCells cells off ys)) rfl
          ⟨(fun cl rw sz e cs h=>by injection h with a1 a2 a3 a4 a5;subst a3;subst a4;exact⟨_,_,_,_,rfl,Nat.le_refl _⟩),Nat.le_refl _,fun _=>⟨rfl,fun c hc=>by
            rw[hM]at hc;injection hc with hc;subst hc;exact E8 hb (CS _ _ _ hlen)⟩⟩
          (fun hh hF=>⟨by rw[zI];exact q0,.inr ⟨b,_,et,hM,setRow_heap w b cur _ et (0,0) hb,q4,q5,fun i x hx=>by
            rw[hsplit]
            rcases MJ ae hx with⟨a1,a2,a3⟩|⟨a1,a2⟩
            · rw[if_pos ⟨a1,a2⟩]
              have hlt:=(List.getElem?_eq_some_iff.1 a3).1
              refine⟨us[i - off]'ae,List.getElem?_eq_getElem ae,(λ_=> ?_),λh=>by cases h⟩
              exact(nr _ _ _ a3 (List.getElem?_eq_getElem ae)).keep (λ_ h=>h) hF
            · rw[if_neg a1]
              obtain⟨z,b1,b2,_⟩:=q6 i x a2
              exact⟨z,b1,(λ_=>(b2 rfl).keep (λ_ h=>h) hF),λh=>by cases h⟩⟩⟩)
        refine⟨_,_,M,hrun,r1,r2,?_⟩
        have:goInt us.length= .int .i64 (m:Int):=by rw[← nl,c1];rfl
        rw[this]
        exact .c .v
      · cases e
    · cases e
  · cases e
theorem Vr (hk : aQ w.heap F h M){e:Nat→Option AV}{a:Act}(he:fK w.heap F h M e a){lvl dst:Nat}{o:Oper}{y:AV}{h':Heap}(hq:aS P lvl e h dst o.op=some (y,h')):
    Trn P w F h M (execOp a.eval o) y h':=by
  unfold aS at hq
  unfold execOp
  split at hq <;> rename_i hop <;> simp only[hop]
  · -- store
    simp only[aA]at hq
    obtain⟨p,hp,x,hx,hq⟩:=hq
    split at hq
    · rename_i hc
      simp only[aA,aH,Prod.mk.injEq]at hq
      obtain⟨h1,hst,rfl,rfl⟩:=hq
      obtain⟨w',F',M',q1,q2,q3⟩:=aho (P:=P) hk (gV he hp) (gV he hx) hc.1 hc.2 hst
      exact⟨.skip,w',F',M',by simp[q1],q2,q3,.inl ⟨rfl,rfl⟩⟩
    · cases hq
  · -- append
    rename_i args ts
    simp only[aA]at hq
    obtain⟨as,has,t,ht,t',ht',hq⟩:=hq
    split at hq
    · rename_i htt
      subst htt
      simp only[aA]at hq
      obtain⟨tv,htv,hq⟩:=hq
      obtain⟨hal,hax⟩:=zC he has
      have hres: ∀ (u v u':Value) (w':World),args.map a.eval=[u,v]→(Builtin.append_ #[t,t] o.type #[u,v]).run P w= .ok u' w'→
          (do let d ← resolve a.eval {callee:= .builtin .append,args:=⟨args⟩,argTypes:=ts} o.type;invoke d.target d.args:Sem Next).run P w= .ok (.value u') w':=λu v u' w' h1 h2=>by
        have h3:Builtin.append_ ts o.type #[u,v]=Builtin.append_ #[t,t] o.type #[u,v]:=by simp[Builtin.append_,ht,ht']
        simp only[resolve,Sem.run_bind,Sem.run_pure,Result.andThen_ok,invoke,List.map_toArray,h1,Go.builtin,h3,h2]
      split at hq
      · rename_i el esz by_
        simp only[aA]at hq
        obtain⟨z,hz,hq⟩:=hq
        split at hq
        · rename_i hzl
          split at hq
          · -- onto an own row
            rename_i id n ext x
            simp only[aA,Prod.exists]at hq
            obtain⟨m,ys,hn,blk,hg,hq⟩:=hq
            split at hq
            · rename_i sz ext' cells
              split at hq
              · rename_i hc
                obtain⟨rfl,rfl,rfl,c1,c2,c3,c4⟩:=hc
                simp only[aH,Prod.mk.injEq]at hq
                obtain⟨rfl,rfl⟩:=hq
                obtain⟨u,v,huv⟩: ∃ u v,args.map a.eval=[u,v]:=by
                  cases hm:args.map a.eval with
                  |nil=>rw[hm]at hal;simp at hal
                  | cons u l=>cases l with
                    |nil=>rw[hm]at hal;simp at hal
                    | cons v l=>cases l with
                      |nil=>exact⟨u,v,rfl⟩
                      |cons _ _=>rw[hm]at hal;simp at hal
                rw[huv]at hax
                have hu:=hax 0 _ u rfl rfl
                have hv:=hax 1 _ v rfl rfl
                obtain⟨us,hnews⟩:=TP (P:=P) hk hv hn
                obtain⟨k1,f1⟩:=ve (inner h.get x) hk
                have ev1:=f1.jS (is:=inner h.get x) hk
                obtain⟨u',w',M',q1,q2,q3,q4⟩:=agF (P:=P) (ty:=o.type) k1 htv hz (ev1.vr hk hu) hg hnews c1 hzl.2 c2 c3 c4 hzl.1
                exact⟨_,w',_,M',hres u v u' w' huv q1,q2,ev1.trans k1 q3,.inr ⟨u',rfl,q4⟩⟩
              · cases hq
            · unfold DJ at hq
              split at hq
              · rename_i idy my exty
                simp only[aA]at hq
                obtain⟨b1,hb1,b2,hb2,hq⟩:=hq
                split at hq
                · split at hq
                  · rename_i hc
                    obtain⟨rfl,rfl,rfl,rfl,rfl,rfl,c2,c3,c4⟩:=hc
                    simp only[aH,Prod.mk.injEq]at hq
                    obtain⟨rfl,rfl⟩:=hq
                    obtain⟨u,v,huv⟩: ∃ u v,args.map a.eval=[u,v]:=by
                      cases hm:args.map a.eval with
                      |nil=>rw[hm]at hal;simp at hal
                      | cons u l=>cases l with
                        |nil=>rw[hm]at hal;simp at hal
                        | cons v l=>cases l with
                          |nil=>exact⟨u,v,rfl⟩
                          |cons _ _=>rw[hm]at hal;simp at hal
                    rw[huv]at hax
                    have hu:=hax 0 _ u rfl rfl
                    have hv:=hax 1 _ v rfl rfl
                    obtain⟨u',w',M',q1,q2,q3,q4⟩:=agE (P:=P) (ty:=o.type) hk htv hz hu hb1 hv hb2 hzl.2 c2 c3 c4 hzl.1
                    exact⟨_,w',_,M',hres u v u' w' huv q1,q2,q3,.inr ⟨u',rfl,q4⟩⟩
                  · cases hq
                · cases hq
              · cases hq
            · cases hq
          · -- onto nil
            rename_i x
            simp only[aA,Prod.exists]at hq
            obtain⟨m,ys,hn,hq⟩:=hq
            split at hq
            · rename_i hc
              obtain⟨c1,c2,c3⟩:=hc
              simp only[aA,Prod.exists,aH,Prod.mk.injEq]at hq
              obtain⟨z',k',h2,e2,rfl,rfl⟩:=hq
              obtain⟨u,v,huv⟩: ∃ u v,args.map a.eval=[u,v]:=by
                cases hm:args.map a.eval with
                |nil=>rw[hm]at hal;simp at hal
                | cons u l=>cases l with
                  |nil=>rw[hm]at hal;simp at hal
                  | cons v l=>cases l with
                    |nil=>exact⟨u,v,rfl⟩
                    |cons _ _=>rw[hm]at hal;simp at hal
              rw[huv]at hax
              obtain rfl:=(hax 0 _ u rfl rfl).fJ
              have hv:=hax 1 _ v rfl rfl
              obtain⟨us,hnews⟩:=TP (P:=P) hk hv hn
              obtain⟨k1,f1⟩:=ve (inner h.get x) hk
              have ev1:=f1.jS (is:=inner h.get x) hk
              obtain⟨hty,inf,hi,rfl,rfl⟩:=nH htv
              obtain⟨inf',zv,hi',hzv,rfl⟩:=zY hz
              rw[hi]at hi';injection hi' with hi';subst hi'
              have hul:us.length=m*inf.size:=by rw[← hnews.len];exact c2
              by_cases hm:m=0
              · subst hm
                have hys:ys=[]:=List.eq_nil_of_length_eq_zero (by simpa using c2)
                have hus:us=[]:=List.eq_nil_of_length_eq_zero (by simpa using hul)
                subst hys;subst hus
                obtain⟨hf,hlen⟩:=hnews.first hul w λ_ _ h=>h
                obtain⟨M',r1,r2,r3⟩:=C9 k1 (Ep w) (.nil (a:=none)) List.nodup_nil (λ_ h=>by cases h) e2
                exact⟨_,w,_,M',hres _ v _ w huv (ac1 hty hi hlen hf (Nat.le_refl _)),r1,ev1.trans k1 r2,.inr ⟨_,rfl,r3⟩⟩
              · obtain⟨hfd,hlen⟩:=hnews.first hul w.drew fun _ _ h=>h
                have hlen':(Builtin.lenOf v).run P w= .ok m w:=(hnews.first (P:=P) hul w λ_ _ h=>h).2
                have hrun:=ac0 (n:=0) (c:=0) (base:=none) (olds:=[]) (ty:=o.type) hty hi hzv hlen' hfd (by simp[Builtin.firstCells]) ae ae (by simpa using c1)
                have hge:=grownCap_ge w (0+m) 0 el
                have hzs:zv.cells.size=inf.size:=by simpa using hzl.1
                generalize grownCap w (0+m) 0 el=cap at hrun hge
                have hg2:w.grownBy (w.drew.alloc (.cells (([]:List Value).toArray++us.toArray++Builtin.zeroCells zv.cells (cap - (0+m))) el)) none:=
                  ⟨rfl,rfl,rfl,by simp,λb hb _=>heap_alloc_old w.drew _ hb⟩
                have hnew:=heap_alloc_new w.drew (.cells (([]:List Value).toArray++us.toArray++Builtin.zeroCells zv.cells (cap - (0+m))) el)
                obtain⟨M',r1,r2,r3⟩:=C9 k1 hg2 (.fresh (sz:=inf.size) (n:=m) (xs:=ys) (c:=cap) hnew ae (by
                    simp only[Array.size_append,List.size_toArray,size_zeroCells,hzs,hul,List.length_nil]
                    rw[Nat.zero_add,← Nat.add_mul]
                    exact Nat.mul_le_mul_right _ ae) c2 λi y hy=>by
                    obtain⟨u2,p1,p2⟩:=oK hnews.len hnews.rel hy
                    have hlt:=(List.getElem?_eq_some_iff.1 p1).1
                    refine⟨u2,?_,p2.grown k1 hg2⟩
                    rw[Array.getElem?_append_left (by simp;omega)]
                    simpa using p1) (by simp) (λb hb=>by simp at hb;subst hb;exact⟨Nat.le_refl _,by simp⟩) e2
                refine⟨_,_,_,M',hres _ v _ _ huv hrun,r1,ev1.trans k1 r2,.inr ⟨_,rfl,?_⟩⟩
                simpa using r3
            · cases hq
          · cases hq
        · cases hq
      · cases hq
    · -- noughts onto nil
      simp only[aA]at hq
      obtain⟨tv,htv,tv',htv',hq⟩:=hq
      obtain⟨hal,hax⟩:=zC he has
      unfold Gz at hq
      split at hq
      · rename_i el esz by_ ki kx n
        simp only[aA]at hq
        obtain⟨z,hz,hq⟩:=hq
        split at hq
        · rename_i hc
          obtain⟨c1,c2,c3,c4,c5⟩:=hc
          simp only[aA,Prod.exists,aH,Prod.mk.injEq]at hq
          obtain⟨z',k',h2,e2,rfl,rfl⟩:=hq
          obtain⟨u,v,huv⟩: ∃ u v,args.map a.eval=[u,v]:=by
            cases hm:args.map a.eval with
            |nil=>rw[hm]at hal;simp at hal
            | cons u l=>cases l with
              |nil=>rw[hm]at hal;simp at hal
              | cons v l=>cases l with
                |nil=>exact⟨u,v,rfl⟩
                |cons _ _=>rw[hm]at hal;simp at hal
          rw[huv]at hax
          obtain rfl:=(hax 0 _ u rfl rfl).fJ
          obtain rfl:=(hax 1 _ v rfl rfl).fJ
          have hres: ∀ (u':Value) (w':World),(Builtin.append_ #[t,t'] o.type #[.slice none 0 0,.int kx n]).run P w= .ok u' w'→
              (do let d ← resolve a.eval {callee:= .builtin .append,args:=⟨args⟩,argTypes:=ts} o.type;invoke d.target d.args:Sem Next).run P w= .ok (.value u') w':=λu' w' h2=>by
            have h3:Builtin.append_ ts o.type #[.slice none 0 0,.int kx n]=Builtin.append_ #[t,t'] o.type #[.slice none 0 0,.int kx n]:=by simp[Builtin.append_,ht,ht']
            simp only[resolve,Sem.run_bind,Sem.run_pure,Result.andThen_ok,invoke,List.map_toArray,huv,Go.builtin,h3,h2]
          obtain⟨hty,inf,hi,rfl,rfl⟩:=nH htv
          have hty':=FO htv'
          obtain⟨inf',zv,hi',hzv,rfl⟩:=zY hz
          rw[hi]at hi';injection hi' with hi';subst hi'
          have hzs:zv.cells.size=inf.size:=by simpa using c1
          by_cases hn:n=0
          · subst hn
            obtain⟨M',r1,r2,r3⟩:=C9 hk (Ep w) (.nil (a:=none)) List.nodup_nil (λ_ h=>by cases h) e2
            refine⟨_,w,_,M',hres _ w ?_,r1,r2,.inr ⟨_,rfl,r3⟩⟩
            simp[Builtin.append_,run_underlying hty,run_underlying hty',sizeOf,typeInfo,hi,asInt,asIntOf,IntKind.wrap,IntKind.signed,IntKind.bits]
          · have hrun:=axW (P:=P) (w:=w) (ty:=o.type) (k:=kx) hty hty' hi hzv ae c4 c5 c2
            have hge:=grownCap_ge w n.toNat 0 el
            generalize grownCap w n.toNat 0 el=cap at hrun hge
            have hg2:w.grownBy (w.drew.alloc (.cells (Builtin.zeroCells zv.cells n.toNat++Builtin.zeroCells zv.cells (cap - n.toNat)) el)) none:=
              ⟨rfl,rfl,rfl,by simp,λb hb _=>heap_alloc_old w.drew _ hb⟩
            have hnew:=heap_alloc_new w.drew (.cells (Builtin.zeroCells zv.cells n.toNat++Builtin.zeroCells zv.cells (cap - n.toNat)) el)
            obtain⟨M',r1,r2,r3⟩:=C9 hk hg2 (.fresh (sz:=inf.size) (n:=n.toNat) (xs:=(List.replicate n.toNat (zv.cells.toList.map AV.v)).flatten) (c:=cap) hnew ae (by
                simp only[Array.size_append,size_zeroCells,hzs]
                rw[← Nat.add_mul]
                exact Nat.mul_le_mul_right _ ae) (by simp[hzs]) λi y hy=>by
                obtain⟨u2,p1,p2⟩:=Ut (F:=F) (H:=(w.drew.alloc (.cells (Builtin.zeroCells zv.cells n.toNat++Builtin.zeroCells zv.cells (cap - n.toNat)) el)).heap) zv n.toNat n.toNat (Nat.le_refl _) i y hy
                refine⟨u2,?_,p2⟩
                have p1':(Builtin.zeroCells zv.cells n.toNat)[i]? =some u2:=p1
                have hlt:=(Array.getElem?_eq_some_iff.1 p1').1
                rw[Array.getElem?_append_left hlt]
                exact p1') (by simp) (λb hb=>by simp at hb;subst hb;exact⟨Nat.le_refl _,by simp⟩) e2
            exact⟨_,_,_,M',hres _ _ hrun,r1,r2,.inr ⟨_,rfl,by simpa using r3⟩⟩
        · cases hq
      · cases hq
  · -- copy
    rename_i d s dT sT
    simp only[aA]at hq
    obtain⟨x,hx,y2,hy2,tv,htv,hq⟩:=hq
    split at hq
    · obtain⟨r,w',M',q1,q2,q3,q4⟩:=alb (P:=P) (sT:=sT) (ty:=o.type) hk htv (gV he hx) (gV he hy2) hq
      refine⟨.value r,w',_,M',?_,q2,q3,.inr ⟨r,rfl,q4⟩⟩
      simp only[resolve,Sem.run_bind,Sem.run_pure,Result.andThen_ok,invoke,List.map_toArray,List.map_cons,List.map_nil,Go.builtin,q1]
    · cases hq
  · cases hq
end
end Go.Av
