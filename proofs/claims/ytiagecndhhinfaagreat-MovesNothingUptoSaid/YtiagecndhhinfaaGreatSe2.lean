/- Stores and appends. Conditions: none. -/
import Derived.Test.YtiagecndhhinfaaGreatSe1
set_option linter.unusedVariables false
namespace Go.Av
section
variable {P:Program} {w:World} {F:Nat->Prop} {h:Heap} {M:Id->Option Nat}
def Trn(P:Program)(w:World)(F:Nat→Prop)(h:Heap)(M:Id→Option Nat)(s:Sem Next)(y:AV)(h':Heap):Prop:=
  ∃ n w' F' M',s.run P w= .ok n w'∧aQ w'.heap F' h' M'∧bn All w F h M w' F' h' M'∧
    ((n= .skip/\y= .v undef)∨ ∃ u,n= .value u/\VR w'.heap F' h' M' y u)
theorem UF(cur:Array Value)(off:Nat)(vs:List Value)(hle:off+vs.length≤cur.size)(i:Nat):
    (cur.toList.take off++vs++cur.toList.drop (off+vs.length)).toArray[i]? =if off<=i/\i<off+vs.length then vs[i - off]? else cur[i]? :=by
  rw[List.getElem?_toArray]
  have hl:(cur.toList.take off).length=off:=by simp;omega
  by_cases h1:i<off
  · rw[if_neg ae,List.append_assoc,List.getElem?_append_left ae,List.getElem?_take,if_pos h1,Array.getElem?_toList]
  · by_cases h2:i<off+vs.length
    · rw[if_pos ae,List.append_assoc,List.getElem?_append_right ae,List.getElem?_append_left ae,hl]
    · rw[if_neg ae,List.getElem?_append_right (by simp;omega),List.getElem?_drop,Array.getElem?_toList]
      congr 1
      simp only[List.length_append,hl]
      omega
theorem CS(cur:Array Value)(off:Nat)(vs:List Value)(hle:off+vs.length≤cur.size):
    (cur.toList.take off++vs++cur.toList.drop (off+vs.length)).toArray.size=cur.size:=by
  simp;omega
theorem E8{b:Nat}{cur cur':Array Value}{e:TypeId}(hb:w.heap[b]? =some (.cells cur e (0,0)))(hs:cur'.size=cur.size):mg (w.setRow b cur').heap b=mg w.heap b:=by
  simp[mg,setRow_heap w b cur cur' e (0,0) hb,hb,hs]
theorem setRow_size(w:World)(b:Nat)(cs:Array Value):(w.setRow b cs).heap.size=w.heap.size:=by simp[World.setRow]
theorem FV{M:Id→Option Nat}{id:Id}:kJ M id (M id)=M:=funext fun i=>by
  unfold kJ;split <;> simp_all
theorem ML(hk:aQ w.heap F h M){id:Id}{x y:ak}(hg:h.get id=some x)(hr:x.rw=true){b:Nat}(hM:M id=some b){cur:Array Value}{et:TypeId}
    (hb:w.heap[b]? =some (.cells cur et (0,0))) {off:Nat} {vs:List Value} (hle:off+vs.length<=cur.size) (hyr:y.rw=true)
    (hd:Held w.heap (w.setRow b (cur.toList.take off++vs++cur.toList.drop (off+vs.length)).toArray).heap M M id x y)
    (hrow:(∀ i z,h.get i=some z→ ∃ y',(h.set id y).get i=some y'∧Held w.heap (w.setRow b (cur.toList.take off++vs++cur.toList.drop (off+vs.length)).toArray).heap M M i z y')→
      (∀ c,F c->(w.setRow b (cur.toList.take off++vs++cur.toList.drop (off+vs.length)).toArray).heap[c]? =w.heap[c]?)->
      tH (w.setRow b (cur.toList.take off++vs++cur.toList.drop (off+vs.length)).toArray).heap F (h.set id y) M id y):
    aQ (w.setRow b (cur.toList.take off++vs++cur.toList.drop (off+vs.length)).toArray).heap F (h.set id y) M∧
      bn All w F h M (w.setRow b (cur.toList.take off++vs++cur.toList.drop (off+vs.length)).toArray) F (h.set id y) M:=by
  have hu:= @Du w (w.setRow b (cur.toList.take off++vs++cur.toList.drop (off+vs.length)).toArray) F h M hk id x y hg hr hyr (M id) rfl rfl rfl (by rw[setRow_size];exact Nat.le_refl _)
    (λc _ hne=>setRow_other w b c _ λe=>hne (e ▸ hM)) (.inl rfl)
  rw[FV]at hu
  exact hu hd hrow
theorem ax0{t:TypeId}{b off:Nat}{cur:Array Value}{et:TypeId}(hb:w.heap[b]? =some (.cells cur et (0,0))){u:Value}{n:Nat}(hn:u.cells.size=n)(ht:n=bD P t)(h0:0<n)
    (hle:off+n<=cur.size) (h1: ∀ v ∈ u.cells.toList,v.oneCell'=true):
    (storeVar t ⟨b,off,none⟩ u).run P w= .ok () (w.setRow b (cur.toList.take off++u.cells.toList++cur.toList.drop (off+u.cells.toList.length)).toArray):=by
  obtain⟨inf,hinf⟩:=adH (P:=P) (t:=t) ae
  have hs:P.cellsOf t=n:=ht.symm
  have hr:=run_storeCells_at P b off et u.cells.toList 0 cur w hb (by simp;omega) h1
  simp only[storeVar,Sem.run_bind,run_sizeOf w hinf,Result.andThen_ok,hs,hn,ne_eq,not_true,if_false]
  simpa using hr
theorem row_of(hk:aQ w.heap F h M){id:Id}{x:ak}(hg:h.get id=some x)(h0:0<x.cells.length): ∃ b cur et,M id=some b∧w.heap[b]? =some (.cells cur et (0,0))∧x.cells.length≤cur.size:=by
  have hr:=hk.row id x hg
  cases x with
  | sl cl rw sz e cells=>
    obtain⟨hl,hr⟩:=hr
    rcases hr with⟨rfl,_⟩|⟨b,cur,t,h1,h2,_,_,h3⟩
    · simp at hl;simp[ak.cells,hl]at h0
    · refine⟨b,cur,t,h1,h2,?_⟩
      simp only[ak.cells]at h0 ⊢
      obtain⟨u,h4,_⟩:=h3 (cells.length - 1) _ (List.getElem?_eq_getElem ae)
      have:=(Array.getElem?_eq_some_iff.1 h4).1
      omega
  | bx rw cells=>
    obtain⟨b,cur,t,h1,h2,hl,_⟩:=hr
    exact⟨b,cur,t,h1,h2,by simp only[ak.cells];omega⟩
theorem MJ{cells ys:List AV}{off i:Nat}{x:AV}(hle:off+ys.length≤cells.length)(hx:(putCells cells off ys)[i]? =some x):
    (off<=i/\i<off+ys.length/\ys[i - off]? =some x)∨(¬ (off<=i/\i<off+ys.length)/\cells[i]? =some x):=by
  rw[Ul _ _ _ _ hle]at hx
  split at hx
  · rename_i hc;exact .inl ⟨hc.1,hc.2,hx⟩
  · rename_i hc;exact .inr ⟨hc,hx⟩
theorem aho(hk:aQ w.heap F h M){p y:AV}{u v:Value}{t:TypeId}(hp:VR w.heap F h M p u)(hy:VR w.heap F h M y v)(hl:y.cells.length=bD P t)(h0:0<bD P t){h':Heap}
    (e:lh h p y=some h'): ∃ w' F' M',(Instr.storeAt t u v).run P w= .ok () w'/\aQ w'.heap F' h' M'/\bn All w F h M w' F' h' M':=by
  unfold lh at e
  split at e
  · rename_i id off ext
    simp only[aA]at e
    obtain⟨blk,hg,e⟩:=e
    split at e
    · rename_i hc
      obtain⟨c1,c2,c3⟩:=hc
      obtain⟨blk',hg',hle0,ho⟩:=hp.zH
      rw[hg]at hg';injection hg' with hg';subst hg'
      obtain⟨b,hM,rfl⟩:=ho c1
      obtain⟨hcl,hcx⟩:=cells_ok hy c3
      have hone: ∀ z ∈ v.cells.toList,z.oneCell'=true:=fun z hz=>by
        obtain⟨i,hi⟩:=List.getElem?_of_mem hz
        have hlt:i<y.cells.length:=by have:=(List.getElem?_eq_some_iff.1 hi).1;simp at this;omega
        have hi':v.cells[i]? =some z:=by simpa using hi
        exact Uc (hcx i _ z (List.getElem?_eq_getElem hlt) hi') (List.all_eq_true.1 c3 _ (List.getElem_mem hlt))
      obtain⟨b',cur,et,hM',hb,hsz⟩:=row_of hk hg ae
      rw[hM]at hM';injection hM' with hM';subst hM'
      have hvl:v.cells.toList.length=y.cells.length:=by simp[hcl]
      have hle:off+v.cells.toList.length<=cur.size:=ae
      have hrun:(Instr.storeAt t (.pointer (some ⟨b,off,none⟩)) v).run P w= .ok () (w.setRow b (cur.toList.take off++v.cells.toList++cur.toList.drop (off+v.cells.toList.length)).toArray):=by
        simpa[Instr.storeAt,Instr.sureAddr]using ax0 (P:=P) (off:=off) hb hcl.symm hl ae ae hone
      have hsplit: ∀ i,(cur.toList.take off++v.cells.toList++cur.toList.drop (off+v.cells.toList.length)).toArray[i]? =if off≤i∧i<off+y.cells.length then v.cells[i - off]? else cur[i]? :=fun i=>by
        rw[UF _ _ _ hle,hvl];simp
      split at e
      · rename_i cells
        injection e with e;subst e
        have hrs:=hk.row _ _ hg
        obtain⟨b2,cur2,et2,q1,q2,q3,q4,q5,q6⟩:=hrs
        rw[hM]at q1;injection q1 with q1;subst q1
        rw[hb]at q2;injection q2 with q2;injection q2 with q2 q2';subst q2;subst q2'
        obtain⟨r1,r2⟩:=ML hk hg rfl hM hb hle (y:= .bx true (putCells cells off y.cells)) rfl
          ⟨(fun cl rw sz e cs h=>by cases h),Nat.le_refl _,fun _=>⟨rfl,fun c hc=>by
            rw[hM]at hc;injection hc with hc;subst hc;exact E8 hb (CS _ _ _ hle)⟩⟩
          (fun hh hF=>⟨b,_,et,hM,setRow_heap w b cur _ et (0,0) hb,by rw[zI,CS _ _ _ hle];exact q3,q4,q5,fun i x hx=>by
            rw[hsplit]
            rcases MJ (by simpa[ak.cells]using c2) hx with⟨a1,a2,a3⟩|⟨a1,a2⟩
            · rw[if_pos ⟨a1,a2⟩]
              have hlt:=(List.getElem?_eq_some_iff.1 a3).1
              refine⟨v.cells[i - off]'ae,Array.getElem?_eq_getElem ae,?_⟩
              exact(hcx _ _ _ a3 (Array.getElem?_eq_getElem ae)).keep (λ_ h=>h) hF hh
            · rw[if_neg a1]
              obtain⟨z,b1,b2⟩:=q6 i x a2
              exact⟨z,b1,b2.keep (λ_ h=>h) hF hh⟩⟩)
        exact⟨_,F,M,hrun,r1,r2⟩
      · rename_i sz ee cells
        injection e with e;subst e
        obtain⟨q0,hrs⟩:=hk.row _ _ hg
        rcases hrs with⟨_,h1⟩|⟨b2,cur2,et2,q1,q2,q4,q5,q6⟩
        · rw[hM]at h1;cases h1
        rw[hM]at q1;injection q1 with q1;subst q1
        rw[hb]at q2;injection q2 with q2;injection q2 with q2 q2';subst q2;subst q2'
        obtain⟨r1,r2⟩:=ML hk hg rfl hM hb hle (y:= .sl false true sz ee (putCells cells off y.cells)) rfl
          ⟨(fun cl rw sz e cs h=>by injection h with a1 a2 a3 a4 a5;subst a3;subst a4;exact⟨_,_,_,_,rfl,Nat.le_refl _⟩),Nat.le_refl _,fun _=>⟨rfl,fun c hc=>by
            rw[hM]at hc;injection hc with hc;subst hc;exact E8 hb (CS _ _ _ hle)⟩⟩
          (fun hh hF=>⟨by rw[zI];exact q0,.inr ⟨b,_,et,hM,setRow_heap w b cur _ et (0,0) hb,q4,q5,fun i x hx=>by
            rw[hsplit]
            rcases MJ (by simpa[ak.cells]using c2) hx with⟨a1,a2,a3⟩|⟨a1,a2⟩
            · rw[if_pos ⟨a1,a2⟩]
              have hlt:=(List.getElem?_eq_some_iff.1 a3).1
              refine⟨v.cells[i - off]'ae,Array.getElem?_eq_getElem ae,(λh=>by cases h),λ_=> ?_⟩
              exact(hcx _ _ _ a3 (Array.getElem?_eq_getElem ae)).keep (λ_ h=>h) hF hh
            · rw[if_neg a1]
              obtain⟨z,b1,_,b2⟩:=q6 i x a2
              exact⟨z,b1,(λh=>by cases h),λ_=>(b2 rfl).keep (λ_ h=>h) hF hh⟩⟩⟩)
        exact⟨_,F,M,hrun,r1,r2⟩
      · rename_i sz0 ee0 cells0
        simp only[aA]at e
        obtain⟨ys,hys,blk1,hg1,e⟩:=e
        obtain⟨k1,f1⟩:=ve ((y.cells.map (aW h.get 4)).flatten) hk
        have ev1:=f1.jS (is:=(y.cells.map (aW h.get 4)).flatten) hk
        split at e
        · rename_i sz ee cells
          injection e with e;subst e
          obtain⟨q0,hrs⟩:=k1.row _ _ hg1
          rcases hrs with⟨_,h1⟩|⟨b2,cur2,et2,q1,q2,q4,q5,q6⟩
          · rw[hM]at h1;cases h1
          rw[hM]at q1;injection q1 with q1;subst q1
          rw[hb]at q2;injection q2 with q2;injection q2 with q2 q2';subst q2;subst q2'
          obtain⟨m1,m2⟩:=BJ hys
          -- the row's cells are those that were there
          obtain⟨x0,hx0,hxx⟩:=f1.bwd _ _ hg1
          rw[hg]at hx0;injection hx0 with hx0;subst hx0
          have hlen:cells.length=cells0.length:=by
            rcases hxx with h1|h1 <;> simp[ak.freeze]at h1 <;> simp[h1]
          have hyl:ys.length=v.cells.size:=ae
          have hyx: ∀ (i:Nat) x z,ys[i]? =some x→v.cells[i]? =some z→VC w.heap (fun c=>F c∨Of h M ((y.cells.map (aW h.get 4)).flatten) c) x z:=fun i x z hx hz=>by
            obtain⟨x',a1,a2⟩:=m2 i x hx
            exact(yU hk 4 x' z x (hcx i x' z a1 hz) a2).grow λc hc=>hc.imp_right λ⟨j,k,hj,hm⟩=>⟨j,k,zq (List.mem_of_getElem? a1) hj,hm⟩
          obtain⟨r1,r2⟩:=ML k1 hg1 rfl hM hb hle (y:= .sl true true sz ee (putCells cells off ys)) rfl
            ⟨(fun cl rw sz e cs h=>by injection h with a1 a2 a3 a4 a5;subst a3;subst a4;exact⟨_,_,_,_,rfl,Nat.le_refl _⟩),Nat.le_refl _,fun _=>⟨rfl,fun c hc=>by
              rw[hM]at hc;injection hc with hc;subst hc;exact E8 hb (CS _ _ _ hle)⟩⟩
            (fun hh hF=>⟨by rw[zI];exact q0,.inr ⟨b,_,et,hM,setRow_heap w b cur _ et (0,0) hb,q4,q5,fun i x hx=>by
              rw[hsplit]
              rcases MJ (by simp[ak.cells]at c2;omega) hx with⟨a1,a2,a3⟩|⟨a1,a2⟩
              · rw[if_pos ae]
                have hlt:=(List.getElem?_eq_some_iff.1 a3).1
                refine⟨v.cells[i - off]'ae,Array.getElem?_eq_getElem ae,(λ_=> ?_),λh=>by cases h⟩
                exact(hyx _ _ _ a3 (Array.getElem?_eq_getElem ae)).keep (λ_ h=>h) hF
              · rw[if_neg ae]
                obtain⟨z,b1,b2,_⟩:=q6 i x a2
                exact⟨z,b1,(λ_=>(b2 rfl).keep (λ_ h=>h) hF),λh=>by cases h⟩⟩⟩)
          exact⟨_,_,M,hrun,r1,ev1.trans k1 r2⟩
        · cases e
      · cases e
    · cases e
  · cases e
end
end Go.Av
