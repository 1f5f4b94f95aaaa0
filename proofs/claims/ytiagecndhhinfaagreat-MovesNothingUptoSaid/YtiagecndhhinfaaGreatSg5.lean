/- A region whose order is open, whole. Conditions: none. -/
import Derived.Test.YtiagecndhhinfaaGreatSg4
set_option linter.unusedVariables false
namespace Go.Av
def jR:Nat→Array Bool→Nat
  |0,_=>0
  |k+1,l=>jR k l+(if l.getD k true=true then 0 else 1)
theorem Ye{i:Nat}: ∀ {k:Nat} {l:Array Bool},k≤i→jR k (l.setIfInBounds i true)=jR k l
  |0,_,_=>rfl
  | k+1,l,h=>by
    have ih:=Ye (k:=k) (l:=l) (i:=i) ae
    simp only[jR,ih]
    rw[getD_set_ne true ae]
theorem HY{i:Nat}: ∀ {k:Nat} {l:Array Bool},i<k→i<l.size→l.getD i true=false→jR k (l.setIfInBounds i true)+1=jR k l
  |0,_,h,_,_=>by omega
  | k +1,l,h,hl,hu=>by
    simp only[jR]
    by_cases hk:i=k
    · subst hk
      rw[Ye (Nat.le_refl _)]
      have:(l.setIfInBounds i true).getD i true=true:=by simp[hl]
      rw[this,hu]
      simp
    · have ih:=HY (k:=k) (l:=l) (i:=i) ae hl hu
      rw[getD_set_ne true hk]
      omega
theorem Ib: ∀ {k:Nat} {l:Array Bool},jR k l=0→ ∀ i,i<k→l.getD i true=true
  |0,_,_,i,h=>by omega
  | k +1,l,h0,i,h=>by
    simp only[jR]at h0
    by_cases hk:i=k
    · subst hk
      by_cases hl:l.getD i true=true
      · exact hl
      · rw[if_neg hl]at h0;omega
    · exact Ib (k:=k) ae i ae
theorem A7: ∀ {k:Nat} {l:Array Bool},0<jR k l→ ∃ i,i<k∧l.getD i true=false∧ ∀ j,j<i→l.getD j true=true
  |0,_,h=>by simp[jR]at h
  | k +1,l,h=>by
    by_cases h0:0<jR k l
    · obtain⟨i,h1,h2⟩:=A7 h0
      exact⟨i,by omega,h2⟩
    · have hz:jR k l=0:=ae
      simp only[jR,hz]at h
      refine⟨k,by omega,?_,Ib hz⟩
      by_cases hl:l.getD k true=true
      · rw[if_pos hl]at h;omega
      · simpa using hl
theorem MR{m k:Nat}(h:k<m):(Array.replicate m false).getD k true=false:=by
  rw[Array.getD_eq_getD_getElem?,Array.getElem?_replicate,if_pos h];rfl
theorem Ia: ∀ (k m:Nat),k≤m→jR k (Array.replicate m false)=k
  |0,_,_=>rfl
  | k+1,m,h=>by
    simp only[jR,Ia k m ae]
    have:(Array.replicate m false).getD k true=false:=MR ae
    rw[this]
    simp
theorem aQ.same{H:Array Obj}{F:Nat→Prop}{h h':Heap}{M:Id→Option Nat}(hk:aQ H F h M)(hh: ∀ id,h'.get id=h.get id):aQ H F h' M:=by
  have hx:Ext h M h' M:=λid x e=>⟨(hh id).trans e,rfl⟩
  exact⟨λid x hg=>(hk.row id x ((hh id).symm.trans hg)).ext hx ((hh id).symm.trans hg),λid id' x y b g1 g2=>hk.inj id id' x y b ((hh id).symm.trans g1) ((hh id').symm.trans g2),hk.fb⟩
theorem bn.same{K:Id→Prop}{w w':World}{F F':Nat→Prop}{h h' h2:Heap}{M M':Id→Option Nat}(ev:bn K w F h M w' F' h' M')(hh: ∀ id,h2.get id=h'.get id):bn K w F h M w' F' h2 M':=
  {ev with orig:=λid y hy=>ev.orig id y ((hh id).symm.trans hy),held:=λid x hx hK=>let ⟨y,h1,h2⟩:=ev.held id x hx hK;⟨y,(hh id).trans h1,h2⟩}
section
variable {P:Program} {C:bG} {cp:aC} {ci:bz} {lvl n:Nat} {N:jq} {all:List Oper} {es:Nat->Env} {hs:Nat->Heap}
theorem aa7(c:Canon P C cp lvl n all es hs)(hcp:aK P cp){w0:World}{F0:Nat→Prop}{h0:Heap}{M0:Id→Option Nat}{Q:Exit→Act→World→Prop}(hdst:all.all (jD N)=true)
    (hfin: ∀ a w F M,St N w F (hs n) M (es n) a->bn All w0 F0 h0 M0 w F (hs n) M->wpAny P .any all.toArray Q (all.length - n) (gY n all.toArray.size) a w)
    (hout: ∀ (m:Nat) (listed:Array Bool) (a:Act) (w:World),HeadInv .any all.toArray n listed→jR n listed=m+1→Mid w0 F0 h0 M0 N lvl n all es hs (fun j=>listed.getD j false=true) a w→ ∀ i ∈ Region.ready .any all.toArray listed,n≤i→
      wpOp P all.toArray Q i (wpAny P .any all.toArray Q (m+(all.length - n)) (listed.setIfInBounds i true)) a w):
    ∀ (m:Nat) (listed:Array Bool) (a:Act) (w:World),HeadInv .any all.toArray n listed→jR n listed=m→Mid w0 F0 h0 M0 N lvl n all es hs (fun j=>listed.getD j false=true) a w→
      wpAny P .any all.toArray Q (m+(all.length - n)) listed a w:=by
  have hle:n<=all.length:=by simpa using c.ok.le
  intro m
  induction m with
  | zero=>
    intro listed a w inv hcnt mid
    -- the head is done
    have hl: ∀ i,i<n->listed.getD i true=true:=Ib hcnt
    have hlf: ∀ i,i<n→listed.getD i false=true:=fun i hi=>by
      have:=hl i hi
      have hs':i<listed.size:=by rw[inv.size];simp;omega
      simp[hs']at this ⊢;exact this
    have heq:listed=gY n all.toArray.size:=by
      apply Array.ext
      · simp[gY,inv.size]
      · intro i h1 h2
        by_cases hi:i<n
        · have:=hl i hi
          simp[h1]at this
          simp[gY,this,hi]
        · have:=inv.tail i ae (by rw[← inv.size];exact h1)
          simp[h1]at this
          simp[gY,this,hi]
    obtain⟨F,M,hS,hk,he,ev,hget⟩:=mid.st
    have hget': ∀ id,(hs n).get id=hS.get id:=fun id=>by
      rw[c.heap n (Nat.le_refl _),hget]
      unfold jw
      by_cases hex:id.1=lvl/\ ∃ j,j<n/\j<n/\(all.toArray[j]?).bind (·.dst)=some id.2.1
      · obtain⟨e1,j,h1,h2,h3⟩:=hex
        rw[if_pos ⟨e1,j,h1,h2,h3⟩,if_pos ⟨e1,j,h1,hlf j h1,h3⟩]
      · rw[if_neg hex,if_neg]
        rintro⟨e1,j,h1,h2,h3⟩
        exact hex ⟨e1,j,h1,h1,h3⟩
    have st:St N w F (hs n) M (es n) a:=by
      refine⟨hk.same hget',λk x hx=>(he k x ?_).ext λid y e=>⟨(hget' id).trans e,rfl⟩,mid.size,mid.defers⟩
      rw[c.env n (Nat.le_refl _)]at hx
      rw[← hx]
      unfold iq
      by_cases hex: ∃ j,j<n/\j<n/\(all.toArray[j]?).bind (·.dst)=some k
      · obtain⟨j,h1,h2,h3⟩:=hex
        rw[if_pos ⟨j,h1,hlf j h1,h3⟩,if_pos ⟨j,h1,h2,h3⟩]
      · rw[if_neg,if_neg hex]
        rintro⟨j,h1,h2,h3⟩
        exact hex ⟨j,h1,h1,h3⟩
    rw[heq]
    have hw:=hfin a w F M st (ev.same hget')
    simpa using hw
  | succ m ih =>
    intro listed a w inv hcnt mid
    obtain⟨i0,hi0,hu0,hleast⟩:=A7 (k:=n) (l:=listed) ae
    rw[show m+1+(all.length - n)=(m+(all.length - n))+1 by omega]
    have hsz:listed.size=all.length:=by rw[inv.size];simp
    refine⟨λhr=> ?_,λi hi=> ?_⟩
    · exfalso
      have:i0 ∈ Region.ready .any all.toArray listed:=by
        rw[mem_ready]
        obtain⟨o,d,ho1,ho,_⟩:=c.at_ hi0
        refine⟨hu0,o,ho,λe he hb=> ?_⟩
        have hlt:=c.ok.back i0 o hi0 ho e he hb
        have:=hleast e.on hlt
        have hlt2:e.on<listed.size:=ae
        simp[hlt2]at this ⊢;exact this
      rw[hr]at this;cases this
    · by_cases hout':n≤i
      · exact hout m listed a w inv hcnt mid i hi hout'
      have hin:i<n:=ae
      obtain⟨hui,o,ho,hpre⟩:=mem_ready.1 hi
      have ho1:all[i]? =some o:=by simpa using ho
      have hnL: ¬ listed.getD i false=true:=fun hh=>by
        have:i<listed.size:=ae
        simp[this]at hui hh
        rw[hui]at hh;cases hh
      have hdo:jD N o=true:=List.all_eq_true.1 hdst o (List.mem_of_getElem? ho1)
      have inv':=inv.set hi hin
      have hcnt':jR n (listed.setIfInBounds i true)=m:=by
        have:=HY (k:=n) (l:=listed) hin ae hui
        omega
      have hnext:=mid.next c hcp (Q:=Q) (fun j oj hj hLj e he hb=>inv.closed j oj hj hLj e he hb) hin hnL ho hpre hdo (K:=wpAny P .any all.toArray Q (m+(all.length - n)) (listed.setIfInBounds i true))
        (fun a' w' mid'=>ih _ a' w' inv' hcnt' (by
          have hL:(fun j=>j=i∨listed.getD j false=true)=fun j=>(listed.setIfInBounds i true).getD j false=true:=funext fun j=>propext ⟨fun h=>by
            rcases h with rfl|h
            · have:j<listed.size:=ae
              simp[this]
            · exact getD_set_true h,λh=>by
            by_cases hji:i=j
            · exact .inl hji.symm
            · rw[getD_set_ne false hji]at h;exact .inr h⟩
          rw[← hL];exact mid'))
      unfold wpOp
      rw[ho]
      simp only
      split
      · rename_i hw
        rw[if_pos hw]at hnext
        exact .inl hnext
      · rename_i hw
        rw[if_neg hw]at hnext
        exact hnext
theorem ZM(hm:P.follows .mixedOrders=true)(hcp:aK P cp){w:World}{F:Nat→Prop}{h:Heap}{M:Id→Option Nat}{e:Env}{a:Act}(st:St N w F h M e a){id:Nat}
    (hdk:Gi n all.toArray) (hdst:all.all (jD N)=true) (he0:es 0=e) (hh0:hs 0=h) (hst: ∀ i,i<n-> ∃ o,all[i]? =some o/\Ae P C cp lvl all o (es i) (hs i) (es (i+1)) (hs (i+1))) {Q:Exit->Act->World->Prop} {r:Option Nat} (hLQ: ¬ LetsOut Q)
    (hn: ∀ a' w' F' M',St N w' F' (hs n) M' (es n) a'->bn All w F h M w' F' (hs n) M'->wpAny P .any all.toArray Q (all.length - n) (gY n all.toArray.size) a' w'):xZ P r id all.toArray Q a w:=by
  subst he0
  subst hh0
  have hle:n<=all.length:=by simpa using hdk.base.le
  have c:Canon P C cp lvl n all es hs:=⟨hdk.base,hst⟩
  refine Us hm hLQ hdst ?_
  have hno: ∀ j,¬ (Array.replicate all.toArray.size false).getD j false=true:=fun j hh=>by
    rw[getD_replicate_false]at hh;cases hh
  have:=aa7 (P:=P) (Q:=Q) c hcp (w0:=w) (F0:=F) (h0:=hs 0) (M0:=M) hdst hn (fun m listed a w inv hcnt _ i hi hin=>by
      obtain⟨i0,hi0,hu0,_⟩:=A7 (k:=n) (l:=listed) ae
      exact absurd hi (hdk.waits listed inv i0 hi0 hu0 i hin))
    n (Array.replicate all.toArray.size false) a {w with drawn:=w.drawn+1}
    ⟨by simp,λj oj hj hl=>absurd hl (hno j),λt h1 h2=>MR h2⟩ (Ia n _ (by simpa using hle))
    ⟨⟨F,M,hs 0,st.ok,fun k x hx=>st.env k x (by
        rw[← hx];unfold iq;rw[if_neg];rintro⟨j,_,h2,_⟩;exact hno j h2),⟨rfl,rfl,rfl,Nat.le_refl _,λ_ _ _=>rfl,λ_ h=>h,λ_ h _=> .inl h,λid y hy hr=> .inl ⟨y,hy,hr,rfl⟩,λid x hx _=>⟨x,hx,Held.refl rfl λ_ _=>rfl⟩⟩,
      λid=>by unfold jw;rw[if_neg];rintro⟨_,j,_,h2,_⟩;exact hno j h2⟩,st.size,st.defers⟩
  rw[show n+(all.length - n)=all.toArray.size by simp;omega]at this
  exact this
theorem al6(hm:P.follows .mixedOrders=true)(hcp:aK P cp)(hci:eH P ci){w:World}{F:Nat→Prop}{h:Heap}{M:Id→Option Nat}{e:Env}{a:Act}(st:St N w F h M e a){e':Env}{h':Heap}{id:Nat}
    (hd:JS n all.toArray=true) (hdst:all.all (jD N)=true) (hq:kK P C cp ci lvl all n all e h=some (e',h')) {Q:Exit->Act->World->Prop} {r:Option Nat} (hLQ: ¬ LetsOut Q)
    (hn: ∀ a' w' F' M',St N w' F' h' M' e' a'->bn All w F h M w' F' h' M'->Q .normal a' w'):xZ P r id all.toArray Q a w:=by
  obtain⟨hdk,hseq⟩:=al4 hd
  have hle:n<=all.length:=by simpa using hdk.base.le
  obtain⟨es,hs,h1,h2,hst,htail⟩:=Gx n all e h e' h' hle hq
  refine ZM hm hcp st hdk hdst h1 h2 hst hLQ λa' w' F' M' st' ev'=> ?_
  have hw:=wpAny_of_seq (P:=P) (md:= .any) (Q':=Q) (all.drop n) n (gY n all.toArray.size) a' w' (fun j=>by rw[List.getElem?_drop];simp) (by rw[List.length_drop];simpa using hseq)
    (wG hcp hci (all.drop n) st' (List.all_eq_true.2 λo ho=>List.all_eq_true.1 hdst o (List.mem_of_mem_drop ho)) htail λa2 w2 F2 M2 s2 ev2=>hn a2 w2 F2 M2 s2 (ev'.trans st'.ok ev2))
  rw[List.length_drop]at hw
  exact hw
theorem aAP{md:Region.Mode}{ops:Array Oper}{listed:Array Bool}{i j:Nat}{oi oj:Oper}{Q:Exit→Act→World→Prop}{a:Act}{w:World}(hi:ops[i]? =some oi)(hj:ops[j]? =some oj)(h0:Region.ready md ops listed=[i,j])
    (h1:Region.ready md ops (listed.setIfInBounds i true)=[j]) (h2:Region.ready md ops (listed.setIfInBounds j true)=[i])
    (h3:Region.ready md ops ((listed.setIfInBounds i true).setIfInBounds j true)=[]) (h4:Region.ready md ops ((listed.setIfInBounds j true).setIfInBounds i true)=[])
    (hw:wpList P ops Q [oi,oj] a w) (hv:wpList P ops Q [oj,oi] a w):wpAny P md ops Q 2 listed a w:=by
  have one: ∀ {x y:Nat} {ox oy:Oper},ops[x]? =some ox→ops[y]? =some oy→Region.ready md ops (listed.setIfInBounds x true)=[y]→Region.ready md ops ((listed.setIfInBounds x true).setIfInBounds y true)=[]→
      wpList P ops Q [ox,oy] a w->wpOp P ops Q x (wpAny P md ops Q 1 (listed.setIfInBounds x true)) a w:=λ {x y ox oy} hx hy r1 r2 hl=>by
    have hw:wpOp P ops Q x (wpList P ops Q [oy]) a w:=by unfold wpOp;simp only[hx];exact hl
    refine wpOp_mono (λa' w' h'=> ?_) hw
    refine⟨λh=>(by rw[r1]at h;cases h),λz hz=> ?_⟩
    rw[r1]at hz
    have:z=y:=by simpa using hz
    subst this
    have hw2:wpOp P ops Q z (wpList P ops Q []) a' w':=by unfold wpOp;simp only[hy];exact h'
    exact wpOp_mono (λa2 w2 h2=>⟨r2,h2⟩) hw2
  refine⟨λh=>(by rw[h0]at h;cases h),λz hz=> ?_⟩
  rw[h0]at hz
  have hz:z=i∨z=j:=by simpa using hz
  rcases hz with rfl|rfl
  · exact one hi hj h1 h3 hw
  · exact one hj hi h2 h4 hv
theorem ayf: ∀ {a b:Value},UB a b=true→a=b:=by
  intro a b h
  unfold UB at h
  split at h <;> simp_all
theorem gy{f:AV→AV→Bool}(hf: ∀ a b,f a b=true→a=b): ∀ {xs ys:List AV},bJ f xs ys=true→xs=ys
  |[],[],_=>rfl
  | x::xs,y::ys,h=>by
    simp only[bJ,Bool.and_eq_true]at h
    rw[hf _ _ h.1,gy hf h.2]
  |[],_::_,h=>by simp[bJ]at h
  |_::_,[],h=>by simp[bJ]at h
theorem iJ: ∀ (d:Nat) (a b:AV),bP d a b=true→a=b:=by
  intro d
  induction d with
  |zero=>intro a b h;unfold bP at h;simp at h
  | succ d ih=>
    intro a b h
    unfold bP at h
    split at h
    · rename_i e;injection e with e;subst e;rw[ayf h]
    · rename_i e;injection e with e;subst e;simp only[Bool.and_eq_true,decide_eq_true_eq]at h;rw[h.1,gy ih h.2]
    · simp only[Bool.and_eq_true,decide_eq_true_eq]at h;rw[h.1.1.1,h.1.1.2,h.1.2,h.2]
    · simp only[Bool.and_eq_true,decide_eq_true_eq]at h;rw[h.1.1,h.1.2,h.2]
    · rename_i e;injection e with e;subst e;simp only[Bool.and_eq_true,decide_eq_true_eq]at h;rw[h.1,gy ih h.2]
    · rename_i e;injection e with e;subst e;simp only[Bool.and_eq_true,decide_eq_true_eq]at h;rw[h.1.1,gy ih h.1.2,gy ih h.2]
    · rename_i e;injection e with e;subst e;rw[gy ih h]
    · rename_i e;injection e with e;subst e;rw[gy ih h]
    · cases h
theorem ayc: ∀ {a b:ak},Uz a b=true→a=b:=by
  intro a b h
  unfold Uz at h
  split at h
  · simp only[Bool.and_eq_true,decide_eq_true_eq,beq_iff_eq]at h
    rw[h.1.1.1.1,h.1.1.1.2,h.1.1.2,h.1.2,gy (iJ 8) h.2]
  · simp only[Bool.and_eq_true,beq_iff_eq]at h
    rw[h.1,gy (iJ 8) h.2]
  · cases h
theorem ac8: ∀ {a b:Env},Ci a b=true→a=b
  |[],[],_=>rfl
  | (i,x)::e,(j,y)::e',h=>by
    simp only[Ci,Bool.and_eq_true,decide_eq_true_eq]at h
    rw[h.1.1,iJ 8 _ _ h.1.2,ac8 h.2]
  |[],_::_,h=>by simp[Ci]at h
  |_::_,[],h=>by simp[Ci]at h
theorem ac9: ∀ {a b:Heap},Cj a b=true→a=b
  |[],[],_=>rfl
  | (i,x)::e,(j,y)::e',h=>by
    simp only[Cj,Bool.and_eq_true,decide_eq_true_eq]at h
    rw[h.1.1,ayc h.1.2,ac9 h.2]
  |[],_::_,h=>by simp[Cj]at h
  |_::_,[],h=>by simp[Cj]at h
theorem ayd{r r':Env×Heap}(h:UA r r'=true):r=r':=by
  simp only[UA,Bool.and_eq_true]at h
  exact Prod.ext (ac8 h.1) (ac9 h.2)
theorem al1(hm:P.follows .mixedOrders=true)(hcp:aK P cp)(hci:eH P ci){w:World}{F:Nat→Prop}{h:Heap}{M:Id→Option Nat}{e:Env}{a:Act}(st:St N w F h M e a){e1 e':Env}{h1 h':Heap}{id:Nat}
    (hd:JU n all.toArray=true) (hdst:all.all (jD N)=true) (hq:kK P C cp ci lvl all n (all.take n) e h=some (e1,h1)) (hq1:ji P C cp ci lvl all (all.drop n) e1 h1=some (e',h'))
    (hq2:ji P C cp ci lvl all (all.drop n).reverse e1 h1=some (e',h')) {Q:Exit->Act->World->Prop} {r:Option Nat} (hLQ: ¬ LetsOut Q)
    (hn: ∀ a' w' F' M',St N w' F' h' M' e' a'->bn All w F h M w' F' h' M'->Q .normal a' w'):xZ P r id all.toArray Q a w:=by
  obtain⟨hdk,hsz,r0,r1,r2,r3,r4⟩:=al2 hd
  have hle:n+2=all.length:=by simpa using hsz
  obtain⟨es,hs,g1,g2,hst,htail⟩:=Gx n (all.take n) e h e1 h1 (by rw[List.length_take];omega) hq
  rw[List.drop_eq_nil_of_le (by rw[List.length_take];omega)]at htail
  simp only[ji,aH,Prod.mk.injEq]at htail
  obtain⟨rfl,rfl⟩:=htail
  refine ZM (C:=C) (lvl:=lvl) hm hcp st hdk hdst g1 g2 (λi hi=> ?_) hLQ λa' w' F' M' st' ev'=> ?_
  · obtain⟨o,ho,hs⟩:=hst i hi
    refine⟨o,?_,hs⟩
    rw[List.getElem?_take,if_pos hi]at ho
    exact ho
  · have hdn:all.drop n=[all[n],all[n+1]]:=by
      rw[List.drop_eq_getElem_cons ae,List.drop_eq_getElem_cons ae,List.drop_eq_nil_of_le ae]
    have hd1:all[n]? =some all[n]:=List.getElem?_eq_getElem ae
    have hd2:all[n+1]? =some all[n+1]:=List.getElem?_eq_getElem ae
    have hdo: ∀ o ∈ all.drop n,jD N o=true:=λo ho=>List.all_eq_true.1 hdst o (List.mem_of_mem_drop ho)
    have w1:=wG hcp hci (all:=all) (Q:=Q) (all.drop n) st' (List.all_eq_true.2 hdo) hq1 λa2 w2 F2 M2 s2 ev2=>hn a2 w2 F2 M2 s2 (ev'.trans st'.ok ev2)
    have w2:=wG hcp hci (all:=all) (Q:=Q) (all.drop n).reverse st' (List.all_eq_true.2 λo ho=>hdo o (List.mem_reverse.1 ho)) hq2 λa2 w2 F2 M2 s2 ev2=>hn a2 w2 F2 M2 s2 (ev'.trans st'.ok ev2)
    rw[hdn]at w1 w2
    rw[show all.length - n=2 by omega]
    exact aAP (by simp) (by simp) r0 r1 r2 r3 r4 w1 w2
end
end Go.Av
