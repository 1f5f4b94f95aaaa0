/- Appends. Conditions: none. -/
import Derived.Test.YtiagecndhhinfaaGreatSe2
set_option linter.unusedVariables false
namespace Go.Av
section
variable {P:Program} {w:World} {F:Nat->Prop} {h:Heap} {M:Id->Option Nat}
structure Dz (P:Program) (w:World) (R:AV→Value→Prop) (v:Value) (m:Nat) (ys:List AV) (us:List Value):Prop where
  len:ys.length=us.length
  val: ∃ a c,v= .slice a m c/\(0<us.length-> ∃ b o,a=some ⟨b,o,none⟩/\ ∀ (j:Nat) u,us[j]? =some u->w.cell? ⟨b,o+j,none⟩=some u)
  rel: ∀ (i:Nat) y u,ys[i]? =some y->us[i]? =some u->R y u
abbrev Og(P:Program)(w:World)(G:Nat->Prop)(v:Value)(m:Nat)(ys:List AV)(us:List Value):Prop:=Dz P w (VC w.heap G) v m ys us
theorem LZ{G:Nat→Prop}{m:Nat}{ys:List AV}{v:Value}(hv:VC w.heap G (.arr m ys) v): ∃ us,Og P w G v m ys us:=by
  cases hv with
  | @gB a c=>exact⟨[],rfl,⟨a,c,rfl,λh=>by simp at h⟩,λi y u h=>by simp at h⟩
  | @arr _ _ b o c us hc hF hr hl hx=>
    obtain⟨cur,e,fz,q1,q2⟩:=hr
    exact⟨us,hl,⟨_,_,rfl,λ_=>⟨b,o,rfl,λj u hj=>by rw[cell_of q1];exact q2 j u hj⟩⟩,hx⟩
theorem TP (hk :aQ w.heap F h M){y:AV}{v:Value}{m:Nat}{ys:List AV}(hv:VR w.heap F h M y v)(e:l7 h.get y=some (m,ys)):
    ∃ us,Og P w (λc=>F c∨Of h M (inner h.get y) c) v m ys us:=by
  unfold l7 at e
  simp only[aA]at e
  obtain⟨z,hz,e⟩:=e
  split at e
  · simp only [aH,Prod.mk.injEq]at e
    obtain⟨rfl,rfl⟩:=e
    cases y with
    | v x =>
      obtain rfl:=hv.fJ
      by_cases hx: ∃ a c,v= .slice a 0 c
      · obtain⟨a,c,rfl⟩:=hx
        simp only[aG,aH,AV.arr.injEq]at hz
        obtain⟨rfl,rfl⟩:=hz
        exact LZ .gB
      · exfalso
        have:aG h.get 4 (.v v)=some (.v v):=by
          unfold aG
          split <;> simp_all
        rw[this]at hz;cases hz
    | arr n xs=>
      simp only[aG,aH,AV.arr.injEq]at hz
      obtain⟨rfl,rfl⟩:=hz
      exact LZ (hv.pF.grow λ_ h=> .inl h)
    | own id off n ext=>
      cases hg:h.get id with
      |none=>simp[aG,hg]at hz
      | some blk=>
        cases blk with
        |bx rw cells=>simp[aG,hg]at hz
        | sl cl rw sz ee cells=>
          cases cl with
          | true=>
            simp only[aG,hg,Option.bind_some]at hz
            split at hz
            · rename_i hee
              simp only[aH,AV.arr.injEq]at hz
              obtain⟨rfl,rfl⟩:=hz
              -- the cells are closed: the row itself need not stand still
              obtain⟨a,c,cl,rw',sz',e',cells',rfl,hg',hn,hle,ho⟩:=hv.nZ
              rw[hg]at hg'
              injection hg' with hg'
              injection hg' with _ _ h1 h2 h3
              subst h1;subst h2;subst h3;subst hee
              obtain⟨hl,hr⟩:=hk.row _ _ hg
              rcases(ho rfl).2 with⟨rfl,rfl⟩|⟨b,S,h1,rfl,h3,h4⟩
              · rw[Ic hl]
                exact LZ .gB
              · rcases hr with⟨_,h0⟩|⟨b',cur,t,h6,h7,_,_,h8⟩
                · rw[h1]at h0;cases h0
                · rw[h1]at h6;injection h6 with h6;subst h6
                  obtain⟨k,m',hc,rfl⟩:=QZ (cells:=cells) (off:=off) (n:=n) (sz:=sz) (ext:=ee)
                  rw[hc]
                  obtain⟨us,⟨cur',e2,fz,p1,p2⟩,hU,hX⟩:=MV (R:=VC w.heap F) h7 (λi x hx=>let ⟨u,a1,a2,_⟩:=h8 i x hx;⟨u,a1,a2 rfl⟩) k m'
                  exact⟨us,hU,⟨_,_,rfl,λ_=>⟨b,k,rfl,λj u hj=>by rw[cell_of p1];exact p2 j u hj⟩⟩,λi y u a b=>(hX i y u a b).grow λ_ h=> .inl h⟩
            · cases hz
          | false =>
            simp only[aG,hg,Option.bind_some]at hz
            split at hz
            · rename_i hee
              simp only[aA,aH,AV.arr.injEq]at hz
              obtain⟨cs,e1,rfl,rfl⟩:=hz
              subst hee
              obtain⟨a,c,cl,rw',sz',e',cells',rfl,hg',hn,hle,ho⟩:=hv.nZ
              rw[hg]at hg'
              injection hg' with hg'
              injection hg' with _ _ h1 h2 h3
              subst h1;subst h2;subst h3
              obtain⟨hl,hr⟩:=hk.row _ _ hg
              obtain⟨q1,q2⟩:=BJ e1
              rcases(ho rfl).2 with⟨rfl,rfl⟩|⟨b,S,h1,rfl,h3,h4⟩
              · rw[Ic ae]
                exact LZ .gB
              · rcases hr with⟨_,h0⟩|⟨b',cur,t,h6,h7,_,_,h8⟩
                · rw[h1]at h0;cases h0
                · rw [h1]at h6;injection h6 with h6;subst h6
                  obtain⟨k,m',hc,rfl⟩:=QZ (cells:=cs) (off:=off) (n:=n) (sz:=sz) (ext:=ee)
                  rw[hc]
                  obtain⟨us,⟨cur',e2,fz,p1,p2⟩,hU,hX⟩:=MV (R:=VC w.heap (fun c=>F c∨Of h M (inner h.get (.own id k n ee)) c)) h7 (fun i x hx=>by
                    obtain⟨z,hz1,hz2⟩:=q2 i x hx
                    obtain⟨u,a1,_,a2⟩:=h8 i z hz1
                    exact⟨u,a1,(yU hk 3 z u x (a2 rfl) hz2).grow fun b hb=>hb.imp_right fun⟨j,k',hj,hm⟩=>⟨j,k',by
                      simp only[inner,hg]
                      exact zq (List.mem_of_getElem? hz1) hj,hm⟩⟩) k m'
                  exact⟨us,hU,⟨_,_,rfl,λ_=>⟨b,k,rfl,λj u hj=>by rw[cell_of p1];exact p2 j u hj⟩⟩,hX⟩
            · cases hz
    |ay xs off=>simp[aG]at hz
    | ptr id off ext=>
      simp only[aG,aA]at hz
      obtain⟨blk,_,hz⟩:=hz
      split at hz
      · split at hz
        · simp[aA]at hz
        · cases hz
      · cases hz
    |fn f a b=>simp[aG,aA]at hz
    |agg xs=>simp[aG,aA]at hz
    |tuple xs=>simp[aG,aA]at hz
    |fresh sz n xs=>simp[aG]at hz
    |freshO sz n xs=>simp[aG]at hz
    |newbx xs=>simp[aG]at hz
  · cases e
theorem Dz.first{R:AV→Value→Prop}{v:Value}{m:Nat}{ys:List AV}{us:List Value}(hn:Dz P w R v m ys us){sz:Nat}(hl:us.length=m*sz)(w':World)(hc: ∀ a u,w.cell? a=some u→w'.cell? a=some u):
    (Builtin.firstCells sz m v).run P w'= .ok us.toArray w'/\(Builtin.lenOf v).run P w'= .ok m w':=by
  obtain⟨a,c,rfl,hx⟩:=hn.val
  refine⟨?_,by simp[Builtin.lenOf]⟩
  rcases Nat.eq_zero_or_pos us.length with h0|h0
  · have hus:us=[]:=List.eq_nil_of_length_eq_zero h0
    subst hus
    cases a with
    |none=>simp[Builtin.firstCells]
    |some a=>exact run_firstCells_some (P:=P) w' sz m a m c [] hl λj v h=>by simp at h
  · obtain⟨b,o,rfl,h1⟩:=hx h0
    exact run_firstCells_some (P:=P) w' sz m _ m c us hl λj v h=>by rw[addr_add];exact hc _ _ (h1 j v h)
theorem ac1{t e ty:TypeId}{i:TypeInfo}{v:Value}{m n c:Nat}{base:Option Addr}(ht:P.underlying t=some (.slice e))(hi:P.info? e=some i)
    (hl:(Builtin.lenOf v).run P w= .ok m w) (hf:(Builtin.firstCells i.size m v).run P w= .ok #[] w) (hroom:n+m<=c):
    (Builtin.append_ #[t,t] ty #[.slice base n c,v]).run P w= .ok (.slice base (n+m) c) w:=by
  cases base with
  |none=>simp[Builtin.append_,run_underlying ht,sizeOf,typeInfo,hi,hl,hroom,hf]
  |some a=>simp[Builtin.append_,run_underlying ht,sizeOf,typeInfo,hi,hl,hroom,hf,storeCells]
theorem axU{t e ty:TypeId}{i:TypeInfo}{v:Value}{m n c b:Nat}{us:List Value}{cur:Array Value}{et:TypeId}(ht:P.underlying t=some (.slice e))(hi:P.info? e=some i)
    (hl:(Builtin.lenOf v).run P w= .ok m w) (hf:(Builtin.firstCells i.size m v).run P w= .ok us.toArray w) (hroom:n+m<=c) (hb:w.heap[b]? =some (.cells cur et (0,0)))
    (hfit:n*i.size+us.length<=cur.size) (h1: ∀ u ∈ us,u.oneCell'=true):
    (Builtin.append_ #[t,t] ty #[.slice (some ⟨b,0,none⟩) n c,v]).run P w=
      .ok (.slice (some ⟨b,0,none⟩) (n+m) c) (w.setRow b (cur.toList.take (n*i.size)++us++cur.toList.drop (n*i.size+us.length)).toArray):=by
  have hst:=run_storeCells_at P b (n*i.size) et us 0 cur w hb (by simpa using hfit) h1
  simp only[Nat.add_zero]at hst
  simp[Builtin.append_,run_underlying ht,sizeOf,typeInfo,hi,hl,hroom,hf,addr_add,hst]
theorem ac0{t e ty:TypeId}{i:TypeInfo}{z:Value}{v:Value}{m n c:Nat}{base:Option Addr}{olds us:List Value}(ht:P.underlying t=some (.slice e))(hi:P.info? e=some i)(hz:i.zero=some z)
    (hl:(Builtin.lenOf v).run P w= .ok m w) (hf:(Builtin.firstCells i.size m v).run P w.drew= .ok us.toArray w.drew)
    (hfo:(Builtin.firstCells i.size n (.slice base n c)).run P w.drew= .ok olds.toArray w.drew) (hg:c<n+m) (h63:n+m<=2 ^ 47) (hfit:(n+m)*i.bytes<=2 ^ 47):
    (Builtin.append_ #[t,t] ty #[.slice base n c,v]).run P w=
      .ok (.slice (some ⟨w.heap.size,0,none⟩) (n+m) (grownCap w (n+m) c e)) (w.drew.alloc (.cells (olds.toArray++us.toArray++Builtin.zeroCells z.cells (grownCap w (n+m) c e - (n+m))) e)):=by
  have hn: ¬ (n+m<=c):=ae
  have h63': ¬ (9223372036854775807<((n:Int)+(m:Int))):=ae
  have hnc:=growslice_fits (need:=n+m) (old:=c) (bytes:=i.bytes) hg ae
  have h48': ¬ (281474976710656<Builtin.nextslicecap (n+m) c*i.bytes):=ae
  simp[Builtin.append_,run_underlying ht,sizeOf,typeInfo,zeroValue,hi,hz,hl,hn,h63',h48',Question.forced,hf,hfo,newRow,grownCap]
  rw[show(olds++us).toArray=olds.toArray++us.toArray from by simp,Array.append_assoc]
theorem X9{cur:Array Value}{cells:List AV}{R:AV→Value→Prop}(hx: ∀ (i:Nat) x,cells[i]? =some x→ ∃ u,cur[i]? =some u∧R x u):
    (cur.toList.take cells.length).length=cells.length/\ ∀ (i:Nat) x u,cells[i]? =some x->(cur.toList.take cells.length)[i]? =some u->R x u:=by
  have hlen:cells.length≤cur.size:=by
    rcases Nat.eq_zero_or_pos cells.length with h|h
    · omega
    · obtain⟨u,h1,_⟩:=hx (cells.length - 1) _ (List.getElem?_eq_getElem ae)
      have:=(Array.getElem?_eq_some_iff.1 h1).1
      omega
  refine⟨by simp;omega,λi x u h1 h2=> ?_⟩
  rw[List.getElem?_take]at h2
  split at h2
  · obtain⟨u',q1,q2⟩:=hx i x h1
    rw[Array.getElem?_toList,q1]at h2
    injection h2 with h2;subst h2;exact q2
  · cases h2
theorem adR{H:Array Obj}{x:AV}{u:Value}(hv:VC H F x u)(h1:x.one=true):u.oneCell'=true:=Uc (h:=[]) (M:=λ_=>none) (.c hv) h1
theorem VF{cl:Bool}{R:AV→Value→Prop}(hRk: ∀ (H':Array Obj) (h':Heap) (M':Id→Option Nat),(∀ id x,h.get id=some x→ ∃ y,h'.get id=some y∧Held w.heap H' M M' id x y)→(∀ b,F b→H'[b]? =w.heap[b]?)→ ∀ x u,R x u→(cl=true→VC H' F x u)∧(cl=false→VR H' F h' M' x u))
    (hR1: ∀ x u,R x u->x.one=true->u.oneCell'=true) (hRo: ∀ x u,((cl=true->VC w.heap F x u)/\(cl=false->VR w.heap F h M x u))->R x u) (hk:aQ w.heap F h M) {t el ty:TypeId} {esz by_:Nat} (htv:aX P t=some (.slice el esz by_)) {z:List AV} (hz:dU P el=some z) {id:Id} {n m:Nat} {cells ys:List AV} {us:List Value} {u v:Value}
    (hu:VR w.heap F h M (.own id 0 n n) u) (hg:h.get id=some (.sl cl true esz n cells)) (hn:Dz P w R v m ys us) (hl:ys.length=m*esz) (h0:0<esz) (h47:n+m<=2 ^ 47) (hb47:(n+m)*by_<=2 ^ 47)
    (h1:ys.all AV.one=true) (hzl:z.length=esz): ∃ u' w' M',(Builtin.append_ #[t,t] ty #[u,v]).run P w= .ok u' w'∧aQ w'.heap F (h.set id (.sl cl true esz (n+m) (cells++ys))) M'∧
      bn All w F h M w' F (h.set id (.sl cl true esz (n+m) (cells++ys))) M'/\VR w'.heap F (h.set id (.sl cl true esz (n+m) (cells++ys))) M' (.own id 0 (n+m) (n+m)) u':=by
  obtain⟨hty,inf,hi,rfl,rfl⟩:=nH htv
  obtain⟨inf',zv,hi',hzv,rfl⟩:=zY hz
  rw[hi]at hi';injection hi' with hi';subst hi'
  have hzs:zv.cells.size=inf.size:=by simpa using hzl
  obtain⟨a,c,cl',rw',sz',e',cells',rfl,hg',hnc,hle,ho⟩:=hu.nZ
  rw[hg]at hg'
  injection hg' with hg'
  injection hg' with _ _ q1 q2 q3
  subst q1;subst q2;subst q3
  obtain⟨hcl,hrow⟩:=hk.row _ _ hg
  obtain⟨hx,hown⟩:=ho rfl
  have hul:us.length=m*inf.size:=by rw[← hn.len];exact hl
  obtain⟨hf,hlen⟩:=hn.first hul w λ_ _ h=>h
  obtain⟨hfd,_⟩:=hn.first hul w.drew λ_ _ h=>h
  have hone: ∀ u ∈ us,u.oneCell'=true:=fun u hu=>by
    obtain⟨i,hi⟩:=List.getElem?_of_mem hu
    have hlt:i<ys.length:=by have:=(List.getElem?_eq_some_iff.1 hi).1;have:=hn.len;omega
    exact hR1 _ _ (hn.rel i _ u (List.getElem?_eq_getElem hlt) hi) (List.all_eq_true.1 h1 _ (List.getElem_mem hlt))
  by_cases hm:m=0
  · subst hm
    have hys:ys=[]:=List.eq_nil_of_length_eq_zero (by simpa using hl)
    have hus:us=[]:=List.eq_nil_of_length_eq_zero (by simpa using hul)
    subst hys;subst hus
    refine⟨_,w,M,ac1 hty hi hlen hf ae,?_⟩
    simp only[Nat.add_zero,List.append_nil]
    have hset: ∀ i,(h.set id (.sl cl true inf.size n cells)).get i=h.get i:=fun i=>by
      rw[En];split
      · rename_i hh;subst hh;exact hg.symm
      · rfl
    have hx2:Ext h M (h.set id (.sl cl true inf.size n cells)) M:=λi x hx=>⟨by rw[hset];exact hx,rfl⟩
    refine⟨⟨λi x hx=>(hk.row i x (by rwa[hset]at hx)).ext hx2 (by rwa[hset]at hx),λi j x y b g1 g2=>hk.inj i j x y b (by rwa[hset]at g1) (by rwa[hset]at g2),hk.fb⟩,?_,hu.ext hx2⟩
    exact⟨rfl,rfl,rfl,Nat.le_refl _,λ_ _ _=>rfl,λ_ h=>h,λ_ h _=> .inl h,λi y hy hr=> .inl ⟨y,by rwa[hset]at hy,hr,rfl⟩,λi x hx _=>⟨x,by rw[hset];exact hx,Held.refl rfl λ_ _=>rfl⟩⟩
  · have hm0:0<m:=ae
    by_cases hroom:n+m<=c
    · -- in place
      rcases hown with⟨_,h2⟩|⟨b,S,hM,rfl,hS,hfit⟩
      · omega
      rcases hrow with⟨_,h2⟩|⟨b',cur,et,hM',hb,hnF,_,hcx⟩
      · rw[hM]at h2;cases h2
      rw[hM]at hM';injection hM' with hM';subst hM'
      have hSc:S=cur.size:=by simp[mg,hb]at hS;exact hS.symm
      have hfit':n*inf.size+us.length≤cur.size:=by
        rw[hul,← Nat.add_mul]
        have:=Nat.mul_le_mul_right inf.size hroom
        omega
      have hup:= @Du w (w.setRow b (cur.toList.take (n*inf.size)++us++cur.toList.drop (n*inf.size+us.length)).toArray) F h M hk id _ (.sl cl true inf.size (n+m) (cells++ys)) hg rfl rfl (M id) rfl rfl rfl
        (by rw[setRow_size];exact Nat.le_refl _) (λc' _ hne=>setRow_other w b c' _ λe=>hne (e ▸ hM)) (.inl rfl)
      rw[FV]at hup
      have hrs:mg (w.setRow b (cur.toList.take (n*inf.size)++us++cur.toList.drop (n*inf.size+us.length)).toArray).heap b=mg w.heap b:=E8 hb (CS _ _ _ hfit')
      obtain⟨r1,r2⟩:=hup ⟨(fun cl2 rw sz e cs h=>by injection h with a1 a2 a3 a4 a5;subst a3;subst a4;exact⟨_,_,_,_,rfl,Nat.le_add_right _ _⟩),Nat.le_add_right _ _,fun _=>⟨rfl,fun c' hc'=>by
          rw[hM]at hc';injection hc' with hc';subst hc';exact hrs⟩⟩
        (fun hh hF=>⟨by rw[List.length_append,hcl,hl,Nat.add_mul],.inr ⟨b,_,et,hM,setRow_heap w b cur _ et (0,0) hb,hnF,(fun h=>by cases h),fun i x hx=>by
          rw[UF _ _ _ hfit']
          by_cases hi2:i<cells.length
          · rw[List.getElem?_append_left hi2]at hx
            rw[if_neg ae]
            obtain⟨u,a1,a2⟩:=hcx i x hx
            exact⟨u,a1,hRk _ _ _ hh hF _ _ (hRo _ _ a2)⟩
          · rw[List.getElem?_append_right ae]at hx
            have hlt:=(List.getElem?_eq_some_iff.1 hx).1
            rw[if_pos (by have:=hn.len;omega)]
            rw[hcl]at hx
            obtain⟨u2,hq,hr2⟩:=oK hn.len hn.rel hx
            exact⟨u2,hq,hRk _ _ _ hh hF _ _ hr2⟩⟩⟩)
      refine⟨_,_,M,axU hty hi hlen hf hroom hb hfit' hone,r1,r2,.own (get_set_same _ _ _) ae (Nat.le_refl _) λ_=>⟨?_,.inr ⟨b,S,hM,rfl,by rw[hrs];exact hS,hfit⟩⟩⟩
      simp only[Nat.zero_add]
      exact Nat.mul_le_mul_right _ hroom
    · -- a new row
      have holds: ∃ olds:List Value,olds.length=n*inf.size∧(Builtin.firstCells inf.size n (.slice a n c)).run P w.drew= .ok olds.toArray w.drew∧ ∀ (i:Nat) x u,cells[i]? =some x→olds[i]? =some u→R x u:=by
        rcases Nat.eq_zero_or_pos n with hn0|hn0
        · subst hn0
          refine⟨[],by simp,?_,λi x u h1 h2=>by simp at h2⟩
          cases a with
          |none=>simp[Builtin.firstCells]
          |some ad=>exact run_firstCells_some (P:=P) w.drew inf.size 0 ad 0 c [] (by simp) λj v h=>by simp at h
        · rcases hown with⟨h2,_⟩|⟨b,S,hM,rfl,hS,hfit⟩
          · omega
          rcases hrow with⟨_,h2⟩|⟨b',cur,et,hM',hb,hnF,_,hcx⟩
          · rw[hM]at h2;cases h2
          rw[hM]at hM';injection hM' with hM';subst hM'
          obtain⟨p1,p2⟩:=X9 (R:=R) λi x hx=>let ⟨u,a1,a2⟩:=hcx i x hx;⟨u,a1,hRo _ _ a2⟩
          refine⟨cur.toList.take cells.length,by rw[p1,hcl],?_,p2⟩
          refine run_firstCells_some (P:=P) w.drew inf.size n _ n c _ (by rw[p1,hcl]) λj v hj=> ?_
          rw[addr_add,Nat.zero_add]
          rw[List.getElem?_take]at hj
          split at hj
          · rw[Array.getElem?_toList]at hj
            show w.cell? _=_
            rw[cell_of hb];exact hj
          · cases hj
      obtain⟨olds,ho1,ho2,ho3⟩:=holds
      have hrun:=ac0 (ty:=ty) hty hi hzv hlen hfd ho2 ae h47 hb47
      have hge:=grownCap_ge w (n+m) c el
      generalize grownCap w (n+m) c el=cap at hrun hge
      have hol:(olds.toArray++us.toArray++Builtin.zeroCells zv.cells (cap - (n+m))).size=cap*inf.size:=by
        simp only[Array.size_append,List.size_toArray,size_zeroCells,hzs,ho1,hul,← Nat.add_mul]
        congr 1;omega
      have hcell: ∀ (i:Nat) x,(cells++ys)[i]? =some x→ ∃ u,(olds.toArray++us.toArray++Builtin.zeroCells zv.cells (cap - (n+m)))[i]? =some u∧R x u:=fun i x hx=>by
        have hlt:=(List.getElem?_eq_some_iff.1 hx).1
        have hnl:=hn.len
        rw[List.length_append]at hlt
        have hpre:(olds.toArray++us.toArray++Builtin.zeroCells zv.cells (cap - (n+m)))[i]? =(olds++us)[i]? :=by
          rw[Array.getElem?_append_left (by simp;omega)]
          simp
        rw[hpre]
        by_cases hi2:i<cells.length
        · rw[List.getElem?_append_left hi2]at hx
          rw[List.getElem?_append_left ae]
          have hq:olds[i]? =some (olds[i]'ae):=List.getElem?_eq_getElem _
          exact⟨_,hq,ho3 i x _ hx hq⟩
        · rw[List.getElem?_append_right ae]at hx
          rw[List.getElem?_append_right ae]
          obtain⟨u2,hq,hr2⟩:=oK hn.len hn.rel hx
          exact⟨u2,by rw[← hq];congr 1;omega,hr2⟩
      generalize olds.toArray++us.toArray++Builtin.zeroCells zv.cells (cap - (n+m))=row at hrun hol hcell
      have hold: ∀ b,b<w.heap.size->(w.drew.alloc (.cells row el)).heap[b]? =w.heap[b]? :=λb hb=>heap_alloc_old w.drew _ hb
      have hnew:(w.drew.alloc (.cells row el)).heap[w.heap.size]? =some (.cells row el (0,0)):=heap_alloc_new w.drew _
      have hsz:w.heap.size≤(w.drew.alloc (.cells row el)).heap.size:=by
        have:=(Array.getElem?_eq_some_iff.1 hnew).1;omega
      obtain⟨r1,r2⟩:= @Du w (w.drew.alloc (.cells row el)) F h M hk id _ (.sl cl true inf.size (n+m) (cells++ys)) hg rfl rfl (some w.heap.size) rfl rfl rfl hsz
        (λb hb _=>hold b hb) (.inr ⟨_,rfl,Nat.le_refl _⟩)
        ⟨(λcl2 rw sz e cs h=>by injection h with a1 a2 a3 a4 a5;subst a3;subst a4;exact⟨_,_,_,_,rfl,Nat.le_add_right _ _⟩),Nat.le_add_right _ _,λhe=>by simp[ak.ext]at he;omega⟩
        (fun hh hF=>⟨by rw[List.length_append,hcl,hl,Nat.add_mul],.inr ⟨w.heap.size,row,el,o6,hnew,(fun _ hF2=>by have:=hk.fb _ hF2;omega),(fun h=>by cases h),fun i x hx=>by
          obtain⟨u,a1,a2⟩:=hcell i x hx
          exact⟨u,a1,hRk _ _ _ hh hF _ _ a2⟩⟩⟩)
      refine⟨_,_,_,hrun,r1,r2,.own (get_set_same _ _ _) hge (Nat.le_refl _) λ_=>⟨?_,.inr ⟨w.heap.size,row.size,o6,rfl,by unfold mg;rw[hnew],by rw[hol];omega⟩⟩⟩
      simp only[Nat.zero_add]
      exact Nat.mul_le_mul_right _ hge
theorem agF(hk:aQ w.heap F h M){t el ty:TypeId}{esz by_:Nat}(htv:aX P t=some (.slice el esz by_)){z:List AV}(hz:dU P el=some z){id:Id}{n m:Nat}{cells ys:List AV}{us:List Value}{u v:Value}
    (hu:VR w.heap F h M (.own id 0 n n) u) (hg:h.get id=some (.sl true true esz n cells)) (hn:Og P w F v m ys us) (hl:ys.length=m*esz) (h0:0<esz) (h47:n+m<=2 ^ 47) (hb47:(n+m)*by_<=2 ^ 47)
    (h1:ys.all AV.one=true) (hzl:z.length=esz): ∃ u' w' M',(Builtin.append_ #[t,t] ty #[u,v]).run P w= .ok u' w'∧aQ w'.heap F (h.set id (.sl true true esz (n+m) (cells++ys))) M'∧
      bn All w F h M w' F (h.set id (.sl true true esz (n+m) (cells++ys))) M'/\VR w'.heap F (h.set id (.sl true true esz (n+m) (cells++ys))) M' (.own id 0 (n+m) (n+m)) u':=
  VF (cl:=true) (R:=VC w.heap F) (λ_ _ _ _ hF x u hv=>⟨λ_=>hv.keep (λ_ h=>h) hF,λh=>Bool.noConfusion h⟩) (λ_ _ hv h1=>adR hv h1) (λ_ _ hv=>hv.1 rfl) hk htv hz hu hg hn hl h0 h47 hb47 h1 hzl
theorem agE(hk:aQ w.heap F h M){t el ty:TypeId}{esz by_:Nat}(htv:aX P t=some (.slice el esz by_)){z:List AV}(hz:dU P el=some z){id idy:Id}{n m:Nat}{rwy:Bool}{cells ys:List AV}{u v:Value}
    (hu:VR w.heap F h M (.own id 0 n n) u) (hg:h.get id=some (.sl false true esz n cells)) (hv:VR w.heap F h M (.own idy 0 m m) v) (hgy:h.get idy=some (.sl false rwy esz m ys)) (h0:0<esz) (h47:n+m<=2 ^ 47) (hb47:(n+m)*by_<=2 ^ 47)
    (h1:ys.all AV.one=true) (hzl:z.length=esz): ∃ u' w' M',(Builtin.append_ #[t,t] ty #[u,v]).run P w= .ok u' w'∧aQ w'.heap F (h.set id (.sl false true esz (n+m) (cells++ys))) M'∧
      bn All w F h M w' F (h.set id (.sl false true esz (n+m) (cells++ys))) M'/\VR w'.heap F (h.set id (.sl false true esz (n+m) (cells++ys))) M' (.own id 0 (n+m) (n+m)) u':=by
  obtain⟨a,c,cl',rw',sz',e',cells',rfl,hg',hnc,hle,ho⟩:=hv.nZ
  rw[hgy]at hg'
  injection hg' with hg'
  injection hg' with _ _ q1 q2 q3
  subst q1;subst q2;subst q3
  obtain⟨hcl,hrow⟩:=hk.row _ _ hgy
  obtain⟨hx,hown⟩:=ho rfl
  have hn: ∃ us,Dz P w (VR w.heap F h M) (.slice a m c) m ys us:=by
    rcases hrow with⟨h2,h3⟩|⟨b',cur,et,hM',hb,_,_,hcx⟩
    · subst h2
      have:ys=[]:=List.eq_nil_of_length_eq_zero (by simpa using hcl)
      subst this
      exact⟨[],rfl,⟨a,c,rfl,λh=>by simp at h⟩,λi y u h=>by simp at h⟩
    · rcases hown with⟨h2,_⟩|⟨b,S,hM,rfl,hS,hfit⟩
      · subst h2
        have:ys=[]:=List.eq_nil_of_length_eq_zero (by simpa using hcl)
        subst this
        exact⟨[],rfl,⟨a,c,rfl,λh=>by simp at h⟩,λi y u h=>by simp at h⟩
      rw[hM]at hM';injection hM' with hM';subst hM'
      obtain⟨p1,p2⟩:=X9 (R:=VR w.heap F h M) λi x hx=>let ⟨u,a1,_,a2⟩:=hcx i x hx;⟨u,a1,a2 rfl⟩
      refine⟨cur.toList.take ys.length,p1.symm,⟨_,_,rfl,λ_=>⟨b,0,rfl,λj u hj=> ?_⟩⟩,p2⟩
      rw[Nat.zero_add,cell_of hb]
      rw[List.getElem?_take]at hj
      split at hj
      · rw[Array.getElem?_toList]at hj;exact hj
      · cases hj
  obtain⟨us,hn⟩:=hn
  exact VF (cl:=false) (R:=VR w.heap F h M) (λ_ _ _ hh hF x u hv=>⟨λh=>Bool.noConfusion h,λ_=>hv.keep (λ_ h=>h) hF hh⟩) (λ_ _ hv h1=>Uc hv h1) (λ_ _ hv=>hv.2 rfl) hk htv hz hu hg hn hcl h0 h47 hb47 h1 hzl
end
end Go.Av
