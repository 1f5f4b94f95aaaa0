/- A region whose order is open: a move of its head that may come behind the operation that comes behind the head. Conditions: none. -/
import Derived.Test.YtiagecndhhinfaaGreatSg5
set_option linter.unusedVariables false
namespace Go.Av
open Classical
section
variable {P:Program} {C:bG} {cp:aC} {ci:bz} {lvl n f:Nat} {N:jq} {all:List Oper}
structure NY (n f a d:Nat) (ops:Array Oper) (o o2:Oper):Prop where
  base:Gh n ops
  fn:f<n
  nn:n<ops.size
  at_f:ops[f]? =some o
  at_n:ops[n]? =some o2
  gf:o.guard=none
  gn:o2.guard=none
  opf:o.op= .move (.tmp a)
  dstf:o.dst=some d
  noa: ∀ j:Nat,j<=n->(ops[j]?).bind (λq:Oper=>q.dst)≠some a
  nod:o2.dst≠some d
  sink: ∀ i,i<n->i≠f->(∃ j,j<n/\i<j/\j≠f/\Region.waitsFor .any ops j i=true)∨Region.waitsFor .any ops n i=true
  chain: ∀ t,n<t->t<ops.size->Region.waitsFor .any ops t (t - 1)=true
  next:n+1<ops.size->Region.waitsFor .any ops (n+1) f=true
theorem anz{ops:Array Oper}(h:J4 n f ops=true):Region.seqB .any ops (ops.size - n) n (gY n ops.size)=true∧ ∃ a d o o2,NY n f a d ops o o2:=by
  simp only[J4,Bool.and_eq_true,decide_eq_true_eq]at h
  obtain⟨⟨⟨⟨⟨⟨⟨h1,h2⟩,h3⟩,h4⟩,h5⟩,h6⟩,h7⟩,h8⟩:=h
  refine⟨h8,?_⟩
  split at h4
  · rename_i o o2 ho ho2
    simp only[Bool.and_eq_true]at h4
    obtain⟨⟨g1,g2⟩,h4⟩:=h4
    split at h4
    · rename_i a d hop hd
      simp only[Bool.and_eq_true,bne_iff_ne,ne_eq]at h4
      refine⟨a,d,o,o2,ZK h1,h2,h3,ho,ho2,by simpa using g1,by simpa using g2,hop,hd,λj hj=> ?_,h4.2,λi hi hne=> ?_,λt ht1 ht2=> ?_,λhn=> ?_⟩
      · have:=List.all_eq_true.1 h4.1 j (List.mem_range.2 ae)
        simpa using this
      · have:=List.all_eq_true.1 h5 i (List.mem_range.2 hi)
        simp only[Bool.or_eq_true,beq_iff_eq]at this
        rcases this with(h|h)|h
        · exact absurd h hne
        · obtain⟨j,hj,hj2⟩:=List.any_eq_true.1 h
          simp only[Bool.and_eq_true,decide_eq_true_eq,bne_iff_ne,ne_eq]at hj2
          exact .inl ⟨j,List.mem_range.1 hj,hj2.1.1,hj2.1.2,hj2.2⟩
        · exact .inr h
      · have:=List.all_eq_true.1 h6 t (List.mem_range.2 ht2)
        simp only[Bool.or_eq_true,decide_eq_true_eq]at this
        rcases this with h|h
        · omega
        · exact h
      · simp only[Bool.or_eq_true,beq_iff_eq]at h7
        rcases h7 with h|h
        · omega
        · exact h
    · cases h4
  · cases h4
theorem JV{d:Nat}: ∀ {e:Env} {k:Nat} {x:AV},(e.drop [d]).get k=some x→k≠d∧e.get k=some x
  |[],k,x,h=>by simp[Env.drop,Env.get]at h
  | (j, v)::e,k,x,h=>by
    unfold Env.drop at h
    by_cases hj:d=j
    · have hm:jJ [d] j=true:=by simp[jJ,hj]
      rw[if_pos hm]at h
      obtain⟨h1,h2⟩:=JV h
      exact⟨h1,by unfold Env.get;rw[if_neg ae];exact h2⟩
    · have hm: ¬ jJ [d] j=true:=by simp[jJ,hj]
      rw[if_neg hm]at h
      unfold Env.get at h ⊢
      by_cases hk:j=k
      · rw[if_pos hk]at h ⊢;exact⟨by omega,h⟩
      · rw[if_neg hk]at h ⊢
        exact JV h
theorem Rj{d:Nat}: ∀ {e:Env} {k:Nat},k≠d→(e.drop [d]).get k=e.get k
  |[],k,h=>rfl
  | (j,v)::e,k,h=>by
    unfold Env.drop
    by_cases hj:d=j
    · have hm:jJ [d] j=true:=by simp[jJ,hj]
      rw[if_pos hm,Rj h]
      conv=>rhs;unfold Env.get
      rw[if_neg ae]
    · have hm: ¬ jJ [d] j=true:=by simp[jJ,hj]
      rw[if_neg hm]
      unfold Env.get
      rw[Rj h]
theorem aav{d:Nat}{y:AV}(hy:flat y=true){s:Nat×Heap}:bC lvl d 4 y s=some (y,s):=by
  cases y <;> first|rfl|(simp[flat]at hy)
variable {es:Nat->Env} {hs:Nat->Heap}
theorem avO{a d:Nat}{o o2:Oper}(fo:NY n f a d all.toArray o o2){listed:Array Bool}(inv:HeadInv .any all.toArray n listed){t:Nat}(ht:n≤t)(hr:t ∈ Region.ready .any all.toArray listed):
    t=n/\ ∀ i,i<n->listed.getD i true=false->i=f:=by
  obtain⟨_,ot,hot,hall⟩:=mem_ready.1 hr
  have htlt:t<all.toArray.size:=(Array.getElem?_eq_some_iff.1 hot).1
  have htn:t=n:=by
    rcases Nat.lt_or_ge n t with h|h
    · exfalso
      obtain⟨o',ho',e,he,hb,hon⟩:=Region.waitsFor_spec (fo.chain t h htlt)
      rw[hot]at ho';injection ho' with ho';subst ho'
      have h1:=hall e he hb
      have h2:=inv.tail (t - 1) ae ae
      rw[hon,getD_both h2]at h1
      cases h1
    · omega
  subst htn
  refine⟨rfl,?_⟩
  have key: ∀ m i,t - i=m→i<t→i≠f→listed.getD i true=false→False:=by
    intro m
    induction m using Nat.strongRecOn with
    | _ m ih=>
      intro i hm hi hne hun
      rcases fo.sink i hi hne with⟨j,hj,hij,hjf,hw⟩|hw
      · obtain⟨oj,hoj,e,he,hb,hon⟩:=Region.waitsFor_spec hw
        cases hl:listed.getD j false with
        | true=>
          have h2:=inv.closed j oj hoj hl e he hb
          rw[hon,getD_both hun]at h2
          cases h2
        | false=>
          have hjs:j<listed.size:=by rw[inv.size];omega
          exact ih (t - j) ae j rfl hj hjf (getD_in hjs hl)
      · obtain⟨o',ho',e,he,hb,hon⟩:=Region.waitsFor_spec hw
        rw[hot]at ho';injection ho' with ho';subst ho'
        have h1:=hall e he hb
        rw[hon,getD_both hun]at h1
        cases h1
  intro i hi hun
  by_cases h:i=f
  · exact h
  · exact(key _ i rfl hi h hun).elim
theorem axq{a d:Nat}{o o2:Oper}(fo:NY n f a d all.toArray o o2){listed:Array Bool}(inv:HeadInv .any all.toArray n listed)(hl: ∀ i,i<n→i≠f→listed.getD i false=true)(hf:listed.getD f true=false):
    Region.ready .any all.toArray (listed.setIfInBounds n true)=[f]:=by
  have hsz:=inv.size
  have hfn:=fo.fn
  have hnn:=fo.nn
  have hmem : ∀ i,i ∈ Region.ready .any all.toArray (listed.setIfInBounds n true) ↔ i=f:=fun i=>by
    rw[mem_ready]
    constructor
    · rintro⟨hu,oi,hoi,hall⟩
      have hilt:i<all.toArray.size:=(Array.getElem?_eq_some_iff.1 hoi).1
      by_cases hin:i=n
      · subst hin
        rw[show(listed.setIfInBounds i true).getD i true=true by simp]at hu
        cases hu
      · rw [getD_set_ne true (fun h=>hin h.symm)]at hu
        rcases Nat.lt_or_ge i n with h|h
        · by_cases hif:i=f
          · exact hif
          · have h1:=hl i h hif
            have:i<listed.size:=ae
            simp[this]at h1 hu
            rw[hu]at h1;cases h1
        · exfalso
          by_cases h1:i=n+1
          · subst h1
            obtain⟨o',ho',e,he,hb,hon⟩:=Region.waitsFor_spec (fo.next hilt)
            rw[hoi]at ho';injection ho' with ho';subst ho'
            have h2:=hall e he hb
            rw[hon,getD_set_ne false ae,getD_both hf]at h2
            cases h2
          · obtain⟨o',ho',e,he,hb,hon⟩:=Region.waitsFor_spec (fo.chain i ae hilt)
            rw[hoi]at ho';injection ho' with ho';subst ho'
            have h2:=hall e he hb
            rw[hon,getD_set_ne false ae,getD_both (inv.tail (i - 1) ae ae)]at h2
            cases h2
    · rintro rfl
      refine⟨by rw[getD_set_ne true ae];exact hf,o,fo.at_f,λe he hb=> ?_⟩
      have hlt:=fo.base.back i o hfn fo.at_f e he hb
      rw[getD_set_ne false ae]
      exact hl e.on ae ae
  have hnd:(Region.ready .any all.toArray (listed.setIfInBounds n true)).Nodup:=by
    unfold Region.ready
    exact List.Pairwise.filter _ List.nodup_range
  cases hr:Region.ready .any all.toArray (listed.setIfInBounds n true)with
  |nil=>have:=(hmem f).2 rfl;rw[hr]at this;cases this
  | cons x xs=>
    have hx:x=f:=(hmem x).1 (by rw[hr];simp)
    subst hx
    cases xs with
    |nil=>rfl
    | cons z zs=>
      have hz:z=x:=(hmem z).1 (by rw[hr];simp)
      rw[hr]at hnd
      subst hz
      simp at hnd
theorem anB(hm:P.follows .mixedOrders=true)(hcp:aK P cp)(hci:eH P ci){w:World}{F:Nat→Prop}{h:Heap}{M:Id→Option Nat}{e:Env}{a:Act}(st:St N w F h M e a){e':Env}{h':Heap}{id:Nat}
    (hd:J4 n f all.toArray=true) (hdst:all.all (jD N)=true) (hq:Aq P C cp ci lvl all n f e h=some (e',h')) {Q:Exit->Act->World->Prop} {r:Option Nat} (hLQ: ¬ LetsOut Q)
    (hn: ∀ a' w' F' M',St N w' F' h' M' e' a'->bn All w F h M w' F' h' M'->Q .normal a' w'):xZ P r id all.toArray Q a w:=by
  obtain⟨hseq,sa,sd,o,o2,fo⟩:=anz hd
  have hnn:n<all.length:=by simpa using fo.nn
  have hfn:=fo.fn
  have hof:all[f]? =some o:=by simpa using fo.at_f
  have hon:all[n]? =some o2:=by simpa using fo.at_n
  unfold Aq at hq
  simp only[aA,Prod.exists]at hq
  obtain⟨e1,h1,hq1,o',ho',o2',ho2',hq⟩:=hq
  rw[hof]at ho';injection ho' with ho';subst ho'
  rw[hon]at ho2';injection ho2' with ho2';subst ho2'
  rw[fo.opf,fo.dstf]at hq
  simp only[Rz,aA]at hq
  obtain⟨y,hy,hq⟩:=hq
  unfold J3 at hq
  have hflat:flat y=true:=by
    cases hf:flat y with
    |true=>rfl
    |false=>rw[hf,if_neg au]at hq;cases hq
  rw[if_pos hflat]at hq
  simp only[aA,Prod.exists]at hq
  obtain⟨z,h2,hop,htail⟩:=hq
  obtain⟨es,hs,g1,g2,hst,ht0⟩:=Gx n (all.take n) e h e1 h1 (by rw[List.length_take];omega) hq1
  rw[List.drop_eq_nil_of_le (by rw[List.length_take];omega)]at ht0
  simp only[ji,aH,Prod.mk.injEq]at ht0
  obtain⟨rfl,rfl⟩:=ht0
  have hst': ∀ i,i<n→ ∃ o,all[i]? =some o∧Ae P C cp lvl all o (es i) (hs i) (es (i+1)) (hs (i+1)):=fun i hi=>by
    obtain⟨o,ho,hs⟩:=hst i hi
    refine⟨o,?_,hs⟩
    rw[List.getElem?_take,if_pos hi]at ho
    exact ho
  have c:Canon P C cp lvl n all es hs:=⟨fo.base,hst'⟩
  subst g1
  subst g2
  have hdo: ∀ q ∈ all,jD N q=true:=λq hq=>List.all_eq_true.1 hdst q hq
  have hdo2:=hdo o2 (List.mem_of_getElem? hon)
  have hdof:=hdo o (List.mem_of_getElem? hof)
  have hdN:sd<N.n:=(pM hdof sd fo.dstf).1
  have had:sa≠sd:=λhh=>fo.noa f ae (by rw[fo.at_f];show o.dst=_;rw[fo.dstf,hh])
  have hdrop:all.drop n=o2::all.drop (n+1):=by
    rw[List.drop_eq_getElem_cons hnn]
    congr 1
    rw[List.getElem?_eq_getElem hnn]at hon
    injection hon
  -- the slot 'sa' is as it was
  have hsaf:(es f).get sa=some y:=by
    rw[c.env f ae]
    rw[c.env n (Nat.le_refl _)]at hy
    unfold iq at hy ⊢
    rw[if_neg (λ⟨j,_,h2,h3⟩=>fo.noa j ae h3)]at hy ⊢
    exact hy
  -- what the move makes
  have hmove:(es n).get sd=some y∧hs (f+1)=hs f:=by
    obtain⟨o',d',_,ho',hd',y',hey,_,_,hcase⟩:=c.at_ hfn
    rw[fo.at_f]at ho';injection ho' with ho';subst ho'
    rw[fo.dstf]at hd';injection hd' with hd';subst hd'
    have hval:y'=y∧hs (f+1)=hs f:=by
      rcases hcase with⟨_,t,k,ht,him⟩|⟨hw,_,_⟩
      · rw[fo.opf]at ht
        have ht2:(es f).get sa=some t:=ht
        rw[hsaf]at ht2;injection ht2 with ht2;subst ht2
        rw[aav hflat]at him
        simp only[aH,Prod.mk.injEq]at him
        exact⟨him.1.symm,him.2.2.symm⟩
      · unfold nI o7 at hw
        rw[fo.gf]at hw
        simp at hw
    refine⟨?_,hval.2⟩
    have h3:=c.env (f+1) ae sd
    rw[hey,wU,hval.1]at h3
    rw[h3]
    have h4:=c.env n (Nat.le_refl _) sd
    rw[h4]
    unfold iq
    rw[if_pos ⟨f,hfn,hfn,by rw[fo.at_f];exact fo.dstf⟩,if_pos ⟨f,hfn,by omega,by rw[fo.at_f];exact fo.dstf⟩]
  -- behind the operation 'n', with the slot
  have hbehind: ∀ {w1:World} {F1:Nat→Prop} {M1:Id→Option Nat} {a1:Act},St N w1 F1 h2 M1 ((dX ((es n).drop [sd]) o2.dst z).set sd y) a1→bn All w F (hs 0) M w1 F1 h2 M1→wpList P all.toArray Q (all.drop (n+1)) a1 w1:=fun {w1 F1 M1 a1} s1 ev1=>
    wG hcp hci (all.drop (n+1)) s1 (List.all_eq_true.2 λq hq=>hdo q (List.mem_of_mem_drop hq)) htail λa2 w2 F2 M2 s2 ev2=>hn a2 w2 F2 M2 s2 (ev1.trans s1.ok ev2)
  have hput: ∀ {H:Array Obj} {F1:Nat→Prop} {h1:Heap} {M1:Id→Option Nat} {e1:Env} {a1:Act},fK H F1 h1 M1 e1.get a1→VR H F1 h1 M1 y (a1.tmps.getD sd undef)→fK H F1 h1 M1 (e1.set sd y).get a1:=fun {H F1 h1 M1 e1 a1} he hv k x hx=>by
    by_cases hk:k=sd
    · subst hk;rw[wU]at hx;injection hx with hx;subst hx;exact hv
    · rw[uY _ _ _ _ hk]at hx;exact he k x hx
  have hdrp: ∀ {H:Array Obj} {F1:Nat->Prop} {h1:Heap} {M1:Id->Option Nat} {a1:Act},fK H F1 h1 M1 (es n).get a1->fK H F1 h1 M1 ((es n).drop [sd]).get a1:=λhe k x hx=>he k x (JV hx).2
  have hkeep: ∀ {a1:Act} {u:Value},a1.tmps.size=N.n→(a1.put o2.dst u).tmps.getD sd undef=a1.tmps.getD sd undef:=fun {a1 u} hs1=>by
    cases hd2:o2.dst with
    |none=>rfl
    | some d2=>
      rw[zJ (by rw[hs1];exact(pM hdo2 d2 hd2).1),if_neg (λhh=>fo.nod (by rw[hd2,hh]))]
  have hle:n<=all.length:=ae
  refine Us hm hLQ hdst ?_
  have hno: ∀ j,¬ (Array.replicate all.toArray.size false).getD j false=true:=fun j hh=>by
    rw[getD_replicate_false]at hh;cases hh
  have := aa7 (P:=P) (Q:=Q) c hcp (w0:=w) (F0:=F) (h0:=hs 0) (M0:=M) hdst (fun a' w' F' M' st' ev'=>by
      -- the move came in the head
      have hw:=wpAny_of_seq (P:=P) (md:= .any) (Q':=Q) (all.drop n) n (gY n all.toArray.size) a' w' (fun j=>by rw[List.getElem?_drop,List.getElem?_toArray]) (by rw[List.length_drop];simpa using hseq) (by
        rw[hdrop]
        unfold wpList
        have hwt:Region.wanted o2 (yielded all.toArray a'.tmps)=true:=by unfold Region.wanted;rw[fo.gn]
        rw[if_pos hwt]
        refine .inl (Pe hcp hci st'.ok (hdrp st'.env) hop λw1 F1 M1 u q1 q2 q3=> ?_)
        have s1:St N w1 F1 h2 M1 (dX ((es n).drop [sd]) o2.dst z) (a'.put o2.dst u):=St.put ⟨st'.ok,hdrp st'.env,st'.size,st'.defers⟩ q1 q2 (pM hdo2) q3
        refine hbehind ⟨s1.ok,hput s1.env ?_,s1.size,s1.defers⟩ (ev'.trans st'.ok q2)
        rw[hkeep st'.size.1]
        exact q2.vr st'.ok (st'.env sd y hmove.1))
      rw[List.length_drop]at hw
      exact hw)
    (fun m listed a' w' inv hcnt mid i hi hin=>by
      obtain⟨rfl,honly⟩:=avO fo inv hin hi
      obtain⟨i0,hi0,hu0,_⟩:=A7 (k:=i) (l:=listed) ae
      have hf0:i0=f:=honly i0 hi0 hu0
      subst hf0
      have hsz:listed.size=all.length:=by rw[inv.size];simp
      have hlist: ∀ j,j<i→j≠i0→listed.getD j false=true:=fun j hj hne=>by
        cases hl:listed.getD j false with
        |true=>rfl
        |false=>exact absurd (honly j hj (getD_in ae hl)) hne
      have hm0:m=0:=by
        have h1:=HY (k:=i) (l:=listed) hi0 ae hu0
        have h2:jR i (listed.setIfInBounds i0 true)=0:=by
          rcases Nat.eq_zero_or_pos (jR i (listed.setIfInBounds i0 true))with h|h
          · exact h
          · obtain⟨j,hj,hju,_⟩:=A7 h
            by_cases hji:j=i0
            · subst hji
              have:j<listed.size:=ae
              simp[this]at hju
            · rw[getD_set_ne true (fun h=>hji h.symm)]at hju
              exact absurd (honly j hj hju) hji
        omega
      subst hm0
      obtain⟨F1,M1,hS,hk,he,ev,hget⟩:=mid.st
      have hne: ∀ j,j<i→j≠i0→(all.toArray[j]?).bind (·.dst)≠some sd:=fun j hj hne hjd=>by
        obtain⟨oj,dj,_,hoj,hdj,_⟩:=c.at_ hj
        rw[dst_at hoj]at hjd
        exact hne (fo.base.one i0 j o oj hi0 hj fo.at_f hoj (hjd.trans fo.dstf.symm))
      have hget': ∀ id,(hs i).get id=hS.get id:=fun id=>by
        rw[hget]
        unfold jw
        by_cases hex:id.1=lvl/\ ∃ j,j<i/\listed.getD j false=true/\(all.toArray[j]?).bind (·.dst)=some id.2.1
        · rw[if_pos hex]
        · rw [if_neg hex]
          by_cases hfd:id.1=lvl/\id.2.1=sd
          · have e1:=c.heap (i0+1) ae id
            have e2:=c.heap i0 ae id
            rw[hmove.2,e2]at e1
            unfold jw at e1
            rw[if_neg,if_pos ⟨hfd.1,i0,hi0,by omega,by rw[fo.at_f,hfd.2];exact fo.dstf⟩]at e1
            · exact e1.symm
            · rintro⟨_,j,h1,h2,h3⟩
              exact hne j h1 ae (by rw[h3,hfd.2])
          · rw[c.heap i (Nat.le_refl _)]
            unfold jw
            rw[if_neg]
            rintro⟨e1,j,h1,_,h3⟩
            by_cases hj:j=i0
            · subst hj
              rw[fo.at_f]at h3
              exact hfd ⟨e1,(Option.some.inj (fo.dstf.symm.trans h3)).symm⟩
            · exact hex ⟨e1,j,h1,hlist j h1 hj,h3⟩
      have hk':aQ w'.heap F1 (hs i) M1:=hk.same hget'
      have he':fK w'.heap F1 (hs i) M1 ((es i).drop [sd]).get a':=fun k x hx=>by
        obtain⟨hkd,hx⟩:=JV hx
        refine(he k x ?_).ext λid y e=>⟨(hget' id).trans e,rfl⟩
        rw[c.env i (Nat.le_refl _)]at hx
        rw[← hx]
        unfold iq
        by_cases hex: ∃ j,j<i/\j<i/\(all.toArray[j]?).bind (·.dst)=some k
        · obtain⟨j,h1,h2,h3⟩:=hex
          have hji:j≠i0:=fun hh=>by
            subst hh
            rw[fo.at_f]at h3
            exact hkd (Option.some.inj (fo.dstf.symm.trans h3)).symm
          rw[if_pos ⟨j,h1,hlist j h1 hji,h3⟩,if_pos ⟨j,h1,h2,h3⟩]
        · rw[if_neg,if_neg hex]
          rintro⟨j,h1,h2,h3⟩
          exact hex ⟨j,h1,h1,h3⟩
      have ev0:=ev.same hget'
      unfold wpOp
      rw[fo.at_n]
      simp only
      have hwt:Region.wanted o2 (yielded all.toArray a'.tmps)=true:=by unfold Region.wanted;rw[fo.gn]
      rw[if_pos hwt]
      refine .inl (Pe hcp hci hk' he' hop λw1 F2 M2 u q1 q2 q3=> ?_)
      have s1:St N w1 F2 h2 M2 (dX ((es i).drop [sd]) o2.dst z) (a'.put o2.dst u):=St.put ⟨hk',he',mid.size,mid.defers⟩ q1 q2 (pM hdo2) q3
      have hrd:=axq fo inv hlist hu0
      rw[show 0+(all.length - i)=(all.length - (i+1))+1 by omega]
      refine⟨λhr=>(by rw[hrd]at hr;cases hr),λj hj=> ?_⟩
      rw[hrd]at hj
      have:j=i0:=by simpa using hj
      subst this
      unfold wpOp
      rw[fo.at_f]
      simp only
      have hwt2:Region.wanted o (yielded all.toArray (a'.put o2.dst u).tmps)=true:=by unfold Region.wanted;rw[fo.gf]
      rw[if_pos hwt2]
      have hya:(dX ((es i).drop [sd]) o2.dst z).get sa=some y:=by
        have h0:((es i).drop [sd]).get sa=some y:=by rw[Rj had];exact hy
        cases hd2:o2.dst with
        |none=>exact h0
        | some d2=>
          show(Env.set _ d2 z).get sa=_
          rw[uY _ _ _ _ (λhh=>fo.noa i (Nat.le_refl _) (by rw[fo.at_n];show o2.dst=_;rw[hd2,hh]))]
          exact h0
      refine .inl (O8 (C:=C) (lvl:=lvl) (slot:=sd) (o:=o) (t:=y) (y:=y) (k:=0) hcp s1.ok s1.env (by rw[fo.opf];exact hya) (aav hflat) λw2 F3 M3 u2 r1 r2 r3=> ?_)
      have s2:St N w2 F3 h2 M3 (dX (dX ((es i).drop [sd]) o2.dst z) o.dst y) ((a'.put o2.dst u).put o.dst u2):=s1.put r1 r2 (pM hdof) r3
      rw[fo.dstf]at s2
      have hlast:=hbehind s2 ((ev0.trans hk' q2).trans s1.ok r2)
      have heq:(listed.setIfInBounds i true).setIfInBounds j true=(gY i all.toArray.size).setIfInBounds i true:=by
        have hls:(gY i all.toArray.size).size=listed.size:=by simp[gY,inv.size]
        refine Array.ext_getElem? λq=> ?_
        rw[Array.getElem?_setIfInBounds,Array.getElem?_setIfInBounds,Array.getElem?_setIfInBounds,Array.size_setIfInBounds,hls]
        by_cases hqs:q<listed.size
        · have hln:(gY i all.toArray.size)[q]? =some (decide (q<i)):=by
            rw[inv.size]at hqs
            unfold gY
            rw[List.getElem?_toArray,List.getElem?_map,List.getElem?_range hqs]
            rfl
          have hlq:listed[q]? =some (listed.getD q false):=by simp[hqs]
          rw[hln,hlq]
          by_cases hqj:j=q
          · subst hqj
            rw[if_pos rfl,if_pos hqs,if_neg ae,decide_eq_true hi0]
          · rw[if_neg hqj]
            by_cases hqi:i=q
            · rw[if_pos hqi,if_pos hqi]
            · rw[if_neg hqi,if_neg hqi]
              rcases Nat.lt_or_ge q i with hqlt|hqlt
              · rw[hlist q hqlt (λh=>hqj h.symm),decide_eq_true hqlt]
              · rw[getD_both (inv.tail q hqlt (by rw[← inv.size];exact hqs)),decide_eq_false ae]
        · rw[Array.getElem?_eq_none (xs:=listed) ae,Array.getElem?_eq_none (xs:=gY i all.toArray.size) ae]
          split
          · rename_i h;rw[if_neg ae,if_neg ae]
          · rfl
      have hs2:=hseq
      rw[show all.toArray.size - i=(all.length - (i+1))+1 by simp;omega]at hs2
      have hw:=wpAny_of_seq (P:=P) (md:= .any) (Q':=Q) (all.drop (i+1)) (i+1) ((gY i all.toArray.size).setIfInBounds i true) ((a'.put o2.dst u).put o.dst u2) w2 (fun j=>by rw[List.getElem?_drop,List.getElem?_toArray]) (by
        rw[List.length_drop]
        unfold Region.seqB at hs2
        simp only[Bool.and_eq_true]at hs2
        exact hs2.2) (by rw[fo.dstf];exact hlast)
      rw[List.length_drop]at hw
      rw[heq]
      exact hw)
    n (Array.replicate all.toArray.size false) a {w with drawn:=w.drawn+1}
    ⟨by simp,λj oj hj hl=>absurd hl (hno j),λt h1 h2=>MR h2⟩ (Ia n _ (by simpa using hle))
    ⟨⟨F,M,hs 0,st.ok,fun k x hx=>st.env k x (by
        rw[← hx];unfold iq;rw[if_neg];rintro⟨j,_,h2,_⟩;exact hno j h2),⟨rfl,rfl,rfl,Nat.le_refl _,λ_ _ _=>rfl,λ_ h=>h,λ_ h _=> .inl h,λid y hy hr=> .inl ⟨y,hy,hr,rfl⟩,λid x hx _=>⟨x,hx,Held.refl rfl λ_ _=>rfl⟩⟩,
      λid=>by unfold jw;rw[if_neg];rintro⟨_,j,_,h2,_⟩;exact hno j h2⟩,st.size,st.defers⟩
  rw[show n+(all.length - n)=all.toArray.size by simp;omega]at this
  exact this
end
end Go.Av
