/- The shapes that infer tells of Concat, Expand, Pad, Transpose, SpaceToDepth and DepthToSpace. The shapes that infer tells of Transpose, SpaceToDepth and DepthToSpace. The shape that infer tells of Slice. What infer tells of all operators that move elements. Picks that stay inside of a tensor; sums of products; Transpose, Tile, Expand, SpaceToDepth and DepthToSpace of a tensor. Tile, Expand, SpaceToDepth, DepthToSpace of a tensor; what is told of one. The places along an axis; names of an axis. Conditions: those that each names. -/
import Derived.Test.YtiagecndhhinfaaGreatVA
set_option linter.unusedVariables false
set_option linter.unusedSimpArgs false
namespace Go.Av
def qj:List Int→List Int→Option (List Int)
  |x::a,d::b=>if x=1 then(qj a b).map (d:: ·)else if d=1∨d=x then(qj a b).map (x:: ·)else none
  |_,_=>some []
def bc'(a b:List Int):Option (List Int):=(qj (a.drop (a.length - b.length)) b).map (a.take (a.length - b.length)++ ·)
def bc(a b:List Int):Option (List Int):=if a.length<b.length then bc' b a else bc' a b
def AO(a b:List Int):List Int×Int:=
  if Good a then(if Good b then(match bc a b with
    |some l=>if Good l then(l,0)else([],mJ l)
    |none=>([],3))else([],mJ b))else([],mJ a)
theorem U4: ∀ {a b r:List Int},a.length=b.length→qj a b=some r→r.length=b.length
  |[],[],r,_,h=>by simp[qj]at h;subst h;rfl
  | x ::a,d::b,r,hl,h=>by
    simp only[qj]at h
    have hl':a.length=b.length:=by simpa using hl
    split at h
    · simp only[Option.map_eq_some_iff]at h
      obtain⟨q,hq,rfl⟩:=h
      simp[U4 hl' hq]
    · split at h
      · simp only[Option.map_eq_some_iff]at h
        obtain⟨q,hq,rfl⟩:=h
        simp[U4 hl' hq]
      · cases h
theorem VT{a b r:List Int}(hl:b.length≤a.length)(h:bc' a b=some r):r.length=a.length:=by
  unfold bc' at h
  simp only[Option.map_eq_some_iff]at h
  obtain⟨q,hq,rfl⟩:=h
  have:=U4 (by simp;omega) hq
  simp;omega
theorem asB{fu:Nat}{l:List Int}(hl:Short l)(hf:l.length<fu):gz.k3 fu l=some (if Good l then(l,0)else([],mJ l)):=by
  unfold gz.k3
  rw[uN hl hf,ai]
  simp only[jP]
  by_cases hg:Good l
  · simp only[if_pos hg,if_true]
  · simp only[if_neg hg]
    rw[if_neg (ui l)]
theorem U6{fu:Nat}{a b:List Int}(ha:a.length≤8)(hl:b.length≤a.length)(hf:9<fu):gz.W1 fu a b a 0=some (match bc' a b with
    |some l=>if Good l then(l,0)else([],mJ l)
    |none=>([],3)):=by
  unfold gz.W1
  have key: ∀ l:List Int,l.length=a.length->gz.k3 fu l=some (if Good l then(l,0)else([],mJ l)):=λl h=>asB (by unfold Short;omega) ae
  have hah:wk .i64 ((a.length:Int) - (b.length:Int))=((a.length - b.length:Nat):Int):=by rw[bi ae ae];omega
  generalize hA:a.length - b.length=A at hah
  refine(qw (fun(s:List Int×Int)=>some (match (qj (s.1.drop (A+s.2.toNat)) (b.drop s.2.toNat)).map (s.1.take (A+s.2.toNat)++ ·)with
    |some l=>if Good l then(l,0)else([],mJ l)
    |none=>([],3))) (λs=>0<=s.2/\s.2<=b.length/\s.1.length=a.length) (λs=>b.length - s.2.toNat) ?_ fu (a,0) ⟨by simp,by simp,rfl⟩ (by simp;omega)).trans (by simp[bc',hA])
  rintro⟨o,i⟩ ⟨h0,h1,h2⟩ next hn
  simp only at h0 h1 h2 hn ⊢
  obtain⟨k,rfl⟩:=Int.eq_ofNat_of_zero_le h0
  unfold gz.L1
  simp only[Int.toNat_natCast,hah]
  have hidx:wk .i64 ((A:Int)+(k:Int))=((A+k:Nat):Int):=by rw[bi ae ae];omega
  by_cases hk:k<b.length
  · have hko:A+k<o.length:=ae
    rw[if_pos ae,at?_get hk,ai,hidx,at?_get hko,ai,dL ae,Int.toNat_natCast]
    rw[List.drop_eq_getElem_cons hko,List.drop_eq_getElem_cons hk]
    simp only[qj]
    have hnext: ∀ o':List Int,o'.length=a.length->next (o',((k+1:Nat):Int))=_:=λo' ho'=>hn (o',((k+1:Nat):Int)) ⟨by simp only[];omega,by simp only[];omega,ho'⟩ (by simp;omega)
    simp only[Int.toNat_natCast]at hnext
    by_cases h3:o[A+k]=1
    · rw[if_pos h3,if_pos h3,aI ae,hnext _ (by simp[h2])]
      have e1:(o.set (A+k) b[k]).drop (A+(k+1))=o.drop (A+k+1):=by
        rw[List.drop_set_of_lt ae];rfl
      have e2:(o.set (A+k) b[k]).take (A+(k+1))=o.take (A+k)++[b[k]]:=by
        rw[← Nat.add_assoc,List.take_succ_eq_append_getElem (by simp;omega),List.take_set,List.set_eq_of_length_le (by simp;omega)]
        simp
      rw[e1,e2]
      cases qj (o.drop (A+k+1)) (b.drop (k+1)) <;> simp
    · rw [if_neg h3,if_neg h3]
      have e2:o.take (A+(k+1))=o.take (A+k)++[o[A+k]]:=by
        rw[← Nat.add_assoc,List.take_succ_eq_append_getElem hko]
      by_cases h4:b[k]=1
      · rw[if_pos h4,if_pos (.inl h4),hnext _ h2,e2]
        cases qj (o.drop (A+k+1)) (b.drop (k+1))with
        |none=>rfl
        |some r=>simp only[Option.map_some,List.append_assoc,List.cons_append,List.nil_append]
      · rw[if_neg h4]
        by_cases h5:b[k]=o[A+k]
        · rw[if_pos h5,if_pos (.inr h5),hnext _ h2,e2]
          cases qj (o.drop (A+k+1)) (b.drop (k+1))with
          |none=>rfl
          |some r=>simp only[Option.map_some,List.append_assoc,List.cons_append,List.nil_append]
        · rw[if_neg h5,if_neg (fun h=>h.elim h4 h5)]
          rfl
  · rw[if_neg ae,key o h2,List.drop_of_length_le ae,List.drop_of_length_le ae,List.take_of_length_le ae]
    simp[qj]
theorem ad5{fu:Nat}{a b:List Int}(ha:Short a)(hb:Short b)(hfa:a.length<fu)(hfb:b.length<fu)(hf:9<fu):gz fu a b=some (AO a b):=by
  unfold gz gz.W2;(try unfold jn)
  have hk1:Good a→Good b→ ∀ z,gz.k1 fu a b z=some (AO a b):=by
    intro ga gb z
    unfold gz.k1 gz.k2;(try unfold jn)
    simp only[AO,if_pos ga,if_pos gb,bc]
    by_cases hlt:a.length<b.length
    · rw[if_pos ae,if_pos hlt,rV (vk gb),ai,U6 gb.1 ae hf]
    · rw[if_neg ae,if_neg hlt,rV (vk ga),ai,U6 ga.1 ae hf]
  obtain⟨f,rfl⟩: ∃ f,fu=f+3:=⟨fu - 3,by omega⟩
  have h0:at? [a,b] (0:Int)=some a:=rfl
  have h1:at? [a,b] (1:Int)=some b:=rfl
  have w0:wk .i64 ((0:Int)+1)=1:=by decide
  have w1:wk .i64 ((1:Int)+1)=2:=by decide
  unfold aT gz.L2
  simp only
  rw[if_pos au,h0,ai,uN ha hfa,ai]
  simp only[jP]
  by_cases ga:Good a
  · simp only[if_pos ga,if_true,w0]
    unfold aT
    simp only
    rw[if_pos au,h1,ai,uN hb hfb,ai]
    simp only[jP]
    by_cases gb:Good b
    · simp only[if_pos gb,if_true,w1]
      unfold aT
      simp only
      rw[if_neg au,hk1 ga gb]
    · simp only[if_neg gb]
      rw[if_neg (ui b)]
      simp[AO,ga,gb]
  · simp only[if_neg ga]
    rw[if_neg (ui a)]
    simp[AO,ga]
theorem U5 : ∀ {a b r : List Int}, a.length = b.length →qj a b=some r→(∀ x ∈ r,1≤x)→(∀ x ∈ a,1≤x)∧ ∀ x ∈ b,1≤x
  |[],[],r,_,h,_=>by simp
  | x :: a, d :: b, r, hl, h, hp=>by
    simp only[qj]at h
    have hl':a.length=b.length:=by simpa using hl
    split at h
    · rename_i hx
      simp only[Option.map_eq_some_iff]at h
      obtain⟨q,hq,rfl⟩:=h
      obtain⟨i1,i2⟩:=U5 hl' hq λy hy=>hp y (by simp[hy])
      have:=hp d (by simp)
      exact ⟨fun y hy => by rcases List.mem_cons.1 hy with rfl|h; · omega
                            · exact i1 y h, fun y hy => by rcases List.mem_cons.1 hy with rfl|h; · omega
                                                           · exact i2 y h⟩
    · split at h
      · rename_i hx hd
        simp only[Option.map_eq_some_iff]at h
        obtain⟨q,hq,rfl⟩:=h
        obtain⟨i1,i2⟩:=U5 hl' hq λy hy=>hp y (by simp[hy])
        have:=hp x (by simp)
        exact ⟨fun y hy => by rcases List.mem_cons.1 hy with rfl|h; · omega
                              · exact i1 y h, fun y hy => by rcases List.mem_cons.1 hy with rfl|h; · omega
                                                             · exact i2 y h⟩
      · cases h
theorem VU{a b r:List Int}(hl:b.length≤a.length)(h:bc' a b=some r)(hp: ∀ x ∈ r,1≤x):(∀ x ∈ a,1≤x)∧ ∀ x ∈ b,1≤x:=by
  unfold bc' at h
  simp only[Option.map_eq_some_iff]at h
  obtain⟨q,hq,rfl⟩:=h
  obtain⟨i1,i2⟩:=U5 (by simp;omega) hq λy hy=>hp y (by simp[hy])
  refine⟨λx hx=> ?_,i2⟩
  rw[← List.take_append_drop (a.length - b.length) a]at hx
  rcases List.mem_append.1 hx with h|h
  · exact hp x (by simp[h])
  · exact i1 x h
def DD(x d:List Int):Prop:=x.length<=d.length/\((∀ y ∈ d,1<=y)-> ∀ y ∈ x,1<=y)
theorem ahF{a b r:List Int}(h:bc a b=some r):DD a r:=by
  unfold bc at h
  by_cases c:a.length<b.length
  · rw[if_pos c]at h
    exact⟨by rw[VT ae h];omega,λhp=>(VU ae h hp).2⟩
  · rw[if_neg c]at h
    exact⟨by rw[VT ae h];omega,λhp=>(VU ae h hp).1⟩
section
variable {fu:Nat} {s:dh} {l:List aP}
theorem aAL(hg:Good (vl l 0).fDims)(hd:(vl l 1).fType≠0→HD fu (vl l 1))(hf:6000<fu):bu (fun d=>d.length≤8∧DD (vl l 0).fDims d) (iT fu ⟨55,s,l,1⟩):=by
  have hn:=rE 1 hd
  unfold iT
  rw[iR,ai,zy hd ae,ai,dB]
  generalize nm l 1=L at hn
  generalize (vl l 0).fDims=X at hg
  have h8:=hg.1
  rw[AL ae ae,ai]
  split
  · exact gK
  · dsimp only
    rw[if_neg (show ¬ (55:Int)=54 by decide)]
    unfold iT.k1
    dsimp only
    rw[if_pos rfl,ad5 (by unfold Short;omega) (by unfold Short;omega) ae ae ae,ai]
    unfold AO
    rw[if_pos hg]
    by_cases gb:Good L
    · rw[if_pos gb]
      cases hb:bc X L with
      |none=>exact bu.bad (by show(3:Int)≠0;decide)
      | some r=>
        dsimp only
        by_cases gr:Good r
        · rw[if_pos gr];exact bu.ok ⟨gr.1,ahF hb⟩
        · rw[if_neg gr];exact bu.bad (ui _)
    · rw[if_neg gb];exact bu.bad (ui _)
def kL(l:List aP)(k:Nat):List Int:=(List.range l.length).map λi=>gI (vl l i).fDims k
theorem vC{k:Nat}:(kL l k).length=l.length:=by simp[kL]
theorem Lu{k i:Nat}(h:i<l.length):gI (kL l k) i=gI (vl l i).fDims k:=by
  rw[cu (by rw[vC];exact h)];simp[kL]
def U7(l:List aP)(k:Nat)(d:List Int):Prop:=d=(vl l 0).fDims.set k (jH (kL l k))/\ ∀ i,i<l.length->(vl l i).fDims=(vl l 0).fDims.set k (gI (kL l k) i)
theorem Ux{L:List Int}(h: ∀ i,i<L.length→0≤gI L i∧gI L i≤4096): ∀ m,m≤L.length→0≤sA L m∧sA L m≤4096*m
  |0,_=>by rw[Nb];omega
  | m+1,hm=>by
    have:=Ux h m ae
    have:=h m ae
    rw[xI ae];omega
theorem ak9{k:Nat}(hl0:1≤l.length)(hl:l.length≤64)(hg: ∀ i,Good (vl l i).fDims)(hk:iC s.fAxis (vl l 0).fDims.length=some (k:Int))(hkl:k<(vl l 0).fDims.length)(hf:6000<fu):
    bu (U7 l k) (lF fu ⟨47,s,l,1⟩):=by
  have ha:=GN (fu:=fu) (op:=47) (s:=s) (l:=l) (hg 0).1 hk
  have hb: ∀ i,i<(kL l k).length→0≤gI (kL l k) i∧gI (kL l k) i≤4096:=fun i hi=>by
    rw[vC]at hi
    rw[Lu hi]
    unfold gI
    by_cases c:k<(vl l i).fDims.length
    · rw[List.getD_eq_getElem?_getD,List.getElem?_eq_getElem c];exact(hg i).2.1 _ (List.getElem_mem c)
    · rw[List.getD_eq_getElem?_getD,List.getElem?_eq_none ae];exact⟨Int.le_refl _,by decide⟩
  have hsa:=Ux hb
  rw[vC]at hsa
  unfold lF
  rw[iR,ai,rV (vk (hg 0)),ai,ha,ai,dB]
  unfold lF.W1
  refine jC (l.length - 1) (λm (st:List Int×Int)=>st.1=(vl l 0).fDims.set k (sA (kL l k) (m+1))/\st.2=((m+1:Nat):Int)/\ ∀ i,i<m+1->(vl l i).fDims=(vl l 0).fDims.set k (gI (kL l k) i)) _ ?_ ?_ ⟨?_,rfl,?_⟩ ae
  · rintro m ⟨O,i⟩ next hm ⟨h1,h2,h3⟩ hx
    dsimp only at h1 h2
    subst h2
    have hol:O.length=(vl l 0).fDims.length:=by rw[h1,List.length_set]
    have hgm:=hg (m+1)
    unfold lF.L1
    dsimp only
    rw[if_pos ae,JO,ai,rV (vk hgm),ai]
    by_cases c1:(((vl l (m+1)).fDims.length:Nat):Int)=(O.length:Int)
    · have h8:=hgm.1
      have e1:gI O k=sA (kL l k) (m+1):=by rw[h1,mM hkl,if_pos rfl]
      have e2:=Lu (k:=k) (show m+1<l.length by omega)
      rw[if_pos c1,bY ae,ai,bY ae,ai,aI ae,Int.toNat_natCast,NW (by unfold Short;rw[List.length_set];omega) (by rw[List.length_set];omega),ai]
      by_cases c2:(vl l (m+1)).fDims.set k (gI O k)=O
      · rw [if_pos (by simpa using c2),aI ae,e1,← e2,bi (by have:=hsa (m+1) ae;have:=hb (m+1) (by rw[vC];omega);omega) (by have:=hsa (m+1) ae;have:=hb (m+1) (by rw[vC];omega);omega),dL ae]
        refine hx (_,_) ⟨?_,rfl,?_⟩
        · show O.set k _=_
          rw[xI (j:=m+1) (by rw[vC];omega),h1,List.set_set]
        · intro i hi
          by_cases e:i=m+1
          · subst e
            have h4:(vl l (m+1)).fDims=((vl l (m+1)).fDims.set k (gI O k)).set k (gI (vl l (m+1)).fDims k):=by rw[List.set_set,Fe ae]
            rw[h4,c2,h1,List.set_set,← e2]
          · exact h3 i ae
      · rw[if_neg (by simpa using c2)];exact gK
    · rw[if_neg c1];exact gK
  · rintro⟨O,i⟩ next ⟨h1,h2,h3⟩
    dsimp only at h1 h2
    subst h2
    unfold lF.L1 lF.k1
    dsimp only
    rw[if_neg ae]
    refine oV ⟨?_,λi hi=>h3 i ae⟩
    rw[h1,← ac6,vC,show l.length - 1+1=l.length by omega]
  · show(vl l 0).fDims=(vl l 0).fDims.set k (sA (kL l k) 1)
    rw[xI (by rw[vC];omega),Nb,Lu ae,Int.zero_add,Fe hkl]
  · intro i hi
    have:i=0:=ae
    subst this
    rw[Lu ae,Fe hkl]
theorem awu(hg:Good (vl l 0).fDims)(hd:(vl l 1).fType≠0→HD fu (vl l 1))(hf:6000<fu):bu (fun d=>d.length=(vl l 0).fDims.length∧(nm l 1).length=2*(vl l 0).fDims.length) (fU fu ⟨53,s,l,1⟩):=by
  have hn:=rE 1 hd
  unfold fU
  rw[iR,ai,zy hd ae]
  generalize nm l 1=L at hn
  generalize (vl l 0).fDims=X at hg
  have h8:=hg.1
  rw[rV (vk hg),ai,ai,dB,bi ae ae]
  by_cases c1:(L.length:Int)=2*(X.length:Int)
  · rw [if_pos c1,AL ae ae,ai]
    split
    · exact gK
    rw[ZE,ai]
    split
    · exact gK
    unfold fU.k1 fU.W1
    rw[dB]
    refine jC L.length (λm (st:List Int×Int)=>st.1.length=X.length/\st.2=(m:Int)) _ ?_ ?_ ⟨rfl,rfl⟩ ae
    · rintro m ⟨O,i⟩ next hm ⟨h1,h2⟩ hx
      dsimp only at h1 h2
      subst h2
      have hr:0<X.length:=ae
      have e1:Int.tmod (m:Int) (X.length:Int)=((m%X.length:Nat):Int):=by rw[Int.tmod_eq_emod_of_nonneg ae,← Int.natCast_emod]
      have hi:=Nat.mod_lt m hr
      have nx: ∀ O':List Int,O'.length=X.length->bu (λd=>d.length=X.length/\L.length=2*X.length) (next (O',((m+1:Nat):Int))):=λO' h=>hx _ ⟨h,rfl⟩
      have K3: ∀ y,bu (fun d=>d.length=X.length∧L.length=2*X.length) (fU.k3 fu (fun a b=>next (a,b)) X O (m:Int) y):=fun y=>by
        unfold fU.k3
        rw[e1,bY ae,ai,aI ae,dL ae]
        exact nx _ (by rw[List.length_set];exact h1)
      have K4: ∀ y b,bu (fun d=>d.length=X.length∧L.length=2*X.length) (fU.k4 fu (fun a b=>next (a,b)) X O (m:Int) y b):=fun y b=>by
        unfold fU.k4
        split
        · exact gK
        · exact K3 y
      unfold fU.L1
      rw[if_pos ae,bY hm,ai,aI ae,e1,bY hi,ai,dB,dL ae]
      by_cases c2:gI L m=0
      · rw[if_pos c2];exact nx O h1
      · rw[if_neg c2,dB]
        dsimp only
        by_cases m2:s.fMode=2
        · rw[if_pos m2]
          by_cases c3:gI X (m%X.length)<=gI L m
          · rw[if_pos c3];exact K4 _ _
          · rw[if_neg c3,if_neg ae];exact K4 _ _
        · rw[if_neg m2]
          by_cases m3:s.fMode=3
          · rw[if_pos m3];exact K4 _ _
          · rw[if_neg m3];exact K4 _ _
    · rintro⟨O,i⟩ next ⟨h1,h2⟩
      dsimp only at h1 h2
      subst h2
      unfold fU.L1 fU.k2
      rw[if_neg ae]
      exact oV ⟨h1,by omega⟩
  · rw[if_neg c1];exact gK
end
end Go.Av
namespace Go.Av
theorem vY{x:Nat}(h:x<=9000000000000000000):wk .i64 (x:Int)=(x:Int):=bi ae ae
theorem vS{a b:Nat}:Int.tdiv (a:Int) (b:Int)=((a / b:Nat):Int):=by rw[Int.tdiv_eq_ediv_of_nonneg ae,← Int.natCast_ediv]
theorem vU{a b:Nat}:Int.tmod (a:Int) (b:Int)=((a%b:Nat):Int):=by rw[Int.tmod_eq_emod_of_nonneg ae,← Int.natCast_emod]
theorem EN{a b x y:Nat}(h1:a<=x)(h2:b<=y):a*b<=x*y:=Nat.mul_le_mul h1 h2
theorem acW{β:Type}{fu n:Nat}{X:List Int}{c:List Int→Option β}{Q:Option β→Prop}{L:(List Int→Int→Int→Option β)→List Int→Int→Int→Option β}(hn:X.length=n)(h8:n≤8)(hf:20<fu)
    (hL: ∀ nx O i j,L nx O i j=if i<j then chk (0<=j/\j<((n:Nat):Int))<|(at? O j).bind λx12=>chk (0<=i/\i<((n:Nat):Int))<|(at? O i).bind λx13=>chk (0<=i/\i<(O.length:Int))<|chk (0<=j/\j<((O.set i.toNat x12).length:Int))<|nx ((O.set i.toNat x12).set j.toNat x13) (wk .i64 (i+1)) (wk .i64 (j - 1))else chk (n=O.length)<|c O)
    (hc: ∀ O:List Int,O.length=n->(∀ a,a<n->gI O a=gI X (n - 1 - a))->Q (c O)):
    Q (aT (λnext (s:List Int×Int×Int)=>L (λa b d=>next (a,b,d)) s.1 s.2.1 s.2.2) fu (X,0,wk .i64 ((n:Int) - 1))):=by
  refine jC (n / 2) (λk (st:List Int×Int×Int)=>st.1.length=n/\st.2.1=(k:Int)/\st.2.2=(n:Int) - 1 - k/\ ∀ a,a<n->gI st.1 a=if a<k∨n<=a+k then gI X (n - 1 - a)else gI X a) Q ?_ ?_ ⟨hn,rfl,?_,?_⟩ ae
  · rintro k ⟨O,i,j⟩ next hk ⟨h1,h2,h3,h4⟩ hx
    dsimp only at h1 h2 h3 h4 ⊢
    subst h2
    have ej:j=((n - 1 - k:Nat):Int):=ae
    subst ej
    rw[hL,if_pos ae,aI ae,bY ae,ai,aI ae,bY ae,ai,aI ae,aI (by rw[List.length_set];omega),dL ae,bi ae ae,Int.toNat_natCast,Int.toNat_natCast]
    refine hx (_,_,_) ⟨by simp[h1],rfl,?_,λa ha=> ?_⟩
    · show((n - 1 - k:Nat):Int) - 1=_;omega
    · show gI ((O.set k _).set (n - 1 - k) _) a=_
      rw[mM (by rw[List.length_set];omega),mM ae]
      by_cases e1:n - 1 - k=a
      · rw[if_pos e1,if_pos ae,h4 k ae,if_neg ae]
        congr 1;omega
      · rw[if_neg e1]
        by_cases e2:k=a
        · rw[if_pos e2,if_pos ae,h4 (n - 1 - k) ae,if_neg ae,e2]
        · rw[if_neg e2,h4 a ha]
          by_cases c:a<k∨n<=a+k
          · rw[if_pos c,if_pos ae]
          · rw[if_neg c,if_neg ae]
  · rintro⟨O,i,j⟩ next ⟨h1,h2,h3,h4⟩
    dsimp only at h1 h2 h3 h4 ⊢
    rw[hL,if_neg ae,aI h1.symm]
    refine hc O h1 λa ha=> ?_
    rw[h4 a ha]
    by_cases c:a<n / 2∨n<=a+n / 2
    · rw[if_pos c]
    · rw[if_neg c];congr 1;omega
  · show wk .i64 ((n:Int) - 1)=_
    rw[bi ae ae];simp
  · intro a ha
    rw[if_neg ae]
theorem ab6{σ β:Type}{fu:Nat}{P X O:List Int}(st:Bool→List Int→Int→σ){body:(σ→Option β)→σ→Option β}{k:Bool→List Int→Option β}{b:Bool}(hf:P.length<fu)(hp:P.length≤1048576)
    (hb: ∀ next b O i,body next (st b O i)=if i<(P.length:Int)then(at? P i).bind λp=>if b=true then(at? X p).bind λy=>chk (0<=i/\i<(O.length:Int))<|next (st true (O.set i.toNat y) (wk .i64 (i+1)))else next (st false O (wk .i64 (i+1)))else k b O)
    (ht:b=true->P.length=X.length/\O.length=X.length/\ ∀ i,i<X.length->0<=gI P i/\gI P i<X.length):aT body fu (st b O 0)=k b (if b=true then act P X else O):=by
  cases b with
  | false=>
    refine jC (body:=body) P.length (λm s=>s=st false O (m:Int)) (λr=>r=k false O) ?_ ?_ rfl hf
    · rintro m s next hm rfl hx
      rw[hb,if_pos ae,bY hm,ai,if_neg au,dL ae]
      exact hx _ rfl
    · rintro s next rfl
      rw[hb,if_neg ae]
  | true=>
    obtain⟨h1,h2,h3⟩:=ht rfl
    rw[if_pos rfl]
    refine jC (body:=body) P.length (λm s=> ∃ O',s=st true O' (m:Int)/\O'.length=X.length/\ ∀ a,a<m->gI O' a=gI (act P X) a) (λr=>r=k true (act P X)) ?_ ?_ ⟨O,rfl,h2,λa h=>by omega⟩ hf
    · rintro m s next hm ⟨O',rfl,h4,h5⟩ hx
      obtain⟨p0,p1⟩:=h3 m ae
      obtain⟨q,hq⟩:=Int.eq_ofNat_of_zero_le p0
      rw[hb,if_pos ae,bY hm,ai,if_pos rfl,hq,bY ae,ai,aI ae,dL ae]
      refine hx _ ⟨_,rfl,by rw[List.length_set];exact h4,λa ha=> ?_⟩
      rw[Int.toNat_natCast,mM ae]
      by_cases e:m=a
      · subst e
        rw[if_pos rfl,wC hm,hq,Int.toNat_natCast]
      · rw[if_neg e];exact h5 a ae
    · rintro s next ⟨O',rfl,h4,h5⟩
      rw[hb,if_neg ae]
      congr 1
      exact Ec (by rw[lQ];omega) λa ha=>h5 a ae
def pV(s:dh)(n:Nat):List Int:=if s.fHasPerm=true then s.fPerm else(List.range n).reverse.map λ(a:Nat)=>(a:Int)
theorem axP{n:Nat}:mi ((List.range n).reverse.map fun(a:Nat)=>(a:Int)) n:=⟨by simp,fun x hx=>by
    simp only[List.mem_map,List.mem_reverse,List.mem_range]at hx
    obtain⟨a,h1,rfl⟩:=hx
    omega,by
    unfold List.Nodup
    rw[List.pairwise_map,List.pairwise_reverse]
    exact(List.nodup_range).imp λh=>by omega⟩
theorem rev_at{n a:Nat}(h:a<n):gI ((List.range n).reverse.map fun(a:Nat)=>(a:Int)) a=((n - 1 - a:Nat):Int):=by
  rw[cu (by simpa using h)]
  simp
theorem acV{X O:List Int}(h:O.length=X.length)(hg: ∀ a,a<X.length→gI O a=gI X (X.length - 1 - a)):O=act ((List.range X.length).reverse.map fun(a:Nat)=>(a:Int)) X:=by
  refine Ec (by rw[lQ];simpa using h) λa ha=> ?_
  rw[wC (by simp;omega),rev_at ae,Int.toNat_natCast]
  exact hg a ae
section
variable {fu:Nat} {s:dh} {l:List aP}
theorem awt(hp:s.fHasPerm=true→(ja (vl l 0).fDims.length s.fPerm (List.replicate (vl l 0).fDims.length false) false).2=0∧s.fPerm.length=(vl l 0).fDims.length∧ ∀ x ∈ s.fPerm,0≤x):mi (pV s (vl l 0).fDims.length) (vl l 0).fDims.length:=by
  unfold pV
  split
  · rename_i h
    obtain⟨h1,h2,h3⟩:=hp h
    obtain⟨-,a,b, -⟩:=(VO s.fPerm _ false (by simp) h3).1.1 h1
    exact⟨h2,λx hx=>⟨h3 x hx,a x hx⟩,b⟩
  · exact axP
theorem az8(hg:Good (vl l 0).fDims)(hs:wu fu s)(hp:mi (pV s (vl l 0).fDims.length) (vl l 0).fDims.length)(hf:6000<fu):bu (fun d=>d=act (pV s (vl l 0).fDims.length) (vl l 0).fDims) (dA fu ⟨45,s,l,1⟩):=by
  have h8:=hg.1
  unfold dA
  rw[iR,ai,dB]
  dsimp only
  rw[if_pos rfl,rV (vk hg),ai]
  unfold dA.W1
  generalize (vl l 0).fDims=X at hg hp h8
  refine acW (L:=dA.L1 fu ⟨45,s,l,1⟩ X X) (X:=X) (n:=X.length) rfl h8 ae (λnx O i j=>rfl) λO h1 h2=> ?_
  rw[dB]
  unfold dA.W2
  rw[ab6 (P:=s.fPerm) (X:=X) (fun b O i=>(b,O,i)) (k:=dA.k2 fu) hs.permf hs.perm (fun next b O i=>rfl) fun hb=>by
    have e:pV s X.length=s.fPerm:=if_pos hb
    rw[e]at hp
    exact⟨hp.len,h1,λi hi=>hp.get hi⟩]
  unfold dA.k2
  refine oV ?_
  unfold pV
  split
  · rfl
  · exact acV h1 h2
theorem four{X:List Int}(hg:Good X)(h:X.length=4): ∃ a b c d:Nat,X=[(a:Int),(b:Int),(c:Int),(d:Int)]∧a≤4096∧b≤4096∧c≤4096∧d≤4096:=by
  match X,h with
  | [x,y,z,w],_=>
    have h1:=hg.2.1 x (by simp);have h2:=hg.2.1 y (by simp);have h3:=hg.2.1 z (by simp);have h4:=hg.2.1 w (by simp)
    exact⟨x.toNat,y.toNat,z.toNat,w.toNat,by rw[Int.toNat_of_nonneg h1.1,Int.toNat_of_nonneg h2.1,Int.toNat_of_nonneg h3.1,Int.toNat_of_nonneg h4.1],by omega,by omega,by omega,by omega⟩
def dS(A C H W B:Nat):List Int:=[(A:Int),(C:Int),((H*B:Nat):Int),((W*B:Nat):Int)]
def dD(A C H W B:Nat):List Int:=[(A:Int),((C*B*B:Nat):Int),(H:Int),(W:Int)]
theorem alE(hg:Good (vl l 0).fDims)(hb:1≤s.fBlock∧s.fBlock≤4096):bu (fun d=> ∃ A C H W B:Nat,s.fBlock=(B:Int)∧(vl l 0).fDims=dD A C H W B∧d=dS A C H W B) (iw fu ⟨63,s,l,1⟩):=by
  unfold iw
  rw[iR,ai]
  dsimp only
  iterate 4 rw[if_neg au]
  rw[dB]
  generalize (vl l 0).fDims=X at hg
  by_cases c4:(X.length:Int)=4
  · rw[if_pos c4,if_pos rfl]
    obtain⟨a,b,c,d,rfl,ha,hb4,hc,hd⟩:=four hg ae
    obtain⟨B,hB⟩:=Int.eq_ofNat_of_zero_le (show 0<=s.fBlock by omega)
    have m0:B*B<=4096*4096:=EN ae ae
    have p0:0<B*B:=Nat.mul_pos ae ae
    have hbb:wk .i64 ((B:Int)*(B:Int))=((B*B:Nat):Int):=by rw[← Int.natCast_mul,vY ae]
    rw[hB,hbb]
    show bu _ ((some (b:Int)).bind _)
    rw[ai,aI ae,vU]
    by_cases cm:((b%(B*B):Nat):Int)=0
    · rw[if_pos cm]
      have m1:c*B<=4096*4096:=EN hc ae
      have m2:d*B<=4096*4096:=EN hd ae
      have q1:=Nat.div_add_mod b (B*B)
      have q2:b / (B*B)<=b:=Nat.div_le_self _ _
      show bu _ ((some (a:Int)).bind _)
      rw[ai]
      show bu _ ((some (c:Int)).bind _)
      rw[ai]
      show bu _ ((some (d:Int)).bind _)
      rw[ai,vS,vY ae,← Int.natCast_mul,vY ae,← Int.natCast_mul,vY ae]
      refine oV ⟨a,b / (B*B),c,d,B,rfl,?_,rfl⟩
      unfold dD
      have:b / (B*B)*B*B=b:=by rw[Nat.mul_assoc,Nat.mul_comm];omega
      rw[this]
    · rw[if_neg cm,if_neg au];exact gK
  · rw[if_neg c4];exact gK
theorem azh(hg:Good (vl l 0).fDims)(hb:1≤s.fBlock∧s.fBlock≤4096):bu (fun d=> ∃ A C H W B:Nat,s.fBlock=(B:Int)∧(vl l 0).fDims=dS A C H W B∧d=dD A C H W B) (iw fu ⟨64,s,l,1⟩):=by
  unfold iw
  rw[iR,ai]
  dsimp only
  iterate 4 rw[if_neg au]
  rw[dB]
  generalize (vl l 0).fDims=X at hg
  by_cases c4:(X.length:Int)=4
  · rw [if_pos c4,if_neg au,if_pos rfl]
    obtain⟨a,b,c,d,rfl,ha,hb4,hc,hd⟩:=four hg ae
    obtain⟨B,hB⟩:=Int.eq_ofNat_of_zero_le (show 0<=s.fBlock by omega)
    rw[hB]
    show bu _ ((some (c:Int)).bind _)
    rw[ai,aI ae,vU]
    by_cases cm:((c%B:Nat):Int)=0
    · rw[if_pos cm]
      show bu _ ((some (d:Int)).bind _)
      rw[ai,vU]
      by_cases cm2:((d%B:Nat):Int)=0
      · rw[if_pos cm2]
        have m1:b*B<=4096*4096:=EN hb4 ae
        have m2:b*B*B<=4096*4096*4096:=EN m1 ae
        have q1:=Nat.div_add_mod c B
        have q2:=Nat.div_add_mod d B
        have q3:c / B<=c:=Nat.div_le_self _ _
        have q4:d / B<=d:=Nat.div_le_self _ _
        show bu _ ((some (a:Int)).bind _)
        rw[ai]
        show bu _ ((some (b:Int)).bind _)
        rw[ai,vS,vS,← Int.natCast_mul,vY ae,← Int.natCast_mul,vY ae,vY ae,vY ae]
        refine oV ⟨a,b,c / B,d / B,B,rfl,?_,rfl⟩
        unfold dS
        have e1:c / B*B=c:=by rw[Nat.mul_comm];omega
        have e2:d / B*B=d:=by rw[Nat.mul_comm];omega
        rw[e1,e2]
      · rw[if_neg cm2];exact gK
    · rw[if_neg cm];exact gK
  · rw[if_neg c4];exact gK
end
end Go.Av
namespace Go.Av
theorem wZ{a b:Int}:bV a b=if b>a then b else a:=rfl
theorem Lh{a b:Int}:iH a b=if b<a then b else a:=rfl
def di(t:Int):Int:=bV (iH t 4097) (-4097)
theorem QV{t:Int}: -4097≤di t∧di t≤4097∧(t≠0→di t≠0):=by
  unfold di
  rw[wZ,Lh]
  split <;> split <;> refine⟨?_,?_,λh=> ?_⟩ <;> omega
def fromV(n p:Int):Int:=if p<0 then p+n else p
def iD(n p g:Int):Int:=if g<0 then bV (iH (fromV n p) (n - 1)) (-1)else bV (iH (fromV n p) n) 0
theorem DR{n p g:Int}(h0:0≤n): -1≤iD n p g∧iD n p g≤n∧(g<0→iD n p g≤n - 1)∧(¬ g<0→0≤iD n p g):=by
  unfold iD
  simp only[wZ,Lh]
  generalize fromV n p=f
  split
  · refine⟨?_,?_,λ_=> ?_,λh=> ?_⟩ <;> (try split) <;> (try split) <;> omega
  · refine⟨?_,?_,λh=> ?_,λ_=> ?_⟩ <;> (try split) <;> (try split) <;> omega
def wL(n p q t:Int):Int:=bV 0 (Int.tdiv ((if di t<0 then iD n p (di t) - iD n q (di t) - di t else iD n q (di t) - iD n p (di t)+di t) - 1) (if di t<0 then -(di t)else di t))
theorem azN{a b:Int}(h: -20000≤a∧a≤20000)(hb:1≤b): -20000≤Int.tdiv a b∧Int.tdiv a b≤20000:=by
  rcases Int.lt_or_le a 0 with h0|h0
  · have e:a= -(-a):=ae
    rw[e,Int.neg_tdiv]
    have h1:0<=Int.tdiv (-a) b:=Int.tdiv_nonneg ae ae
    have h2:Int.tdiv (-a) b<= -a:=by rw[Int.tdiv_eq_ediv_of_nonneg ae];exact Int.ediv_le_self _ ae
    omega
  · have h1:0≤Int.tdiv a b:=Int.tdiv_nonneg h0 ae
    have h2:Int.tdiv a b<=a:=by rw[Int.tdiv_eq_ediv_of_nonneg h0];exact Int.ediv_le_self _ ae
    omega
theorem cnt_lt{n p q t i:Int}(h0:0≤n)(ht:t≠0)(hi0:0≤i)(hi:i<wL n p q t):0≤iD n p (di t)+i*di t∧iD n p (di t)+i*di t<n:=by
  obtain⟨c1,c2,c3⟩:=QV (t:=t)
  have hz:=c3 ht
  obtain⟨p1,p2,p3,p4⟩:=DR (p:=p) (g:=di t) h0
  obtain⟨q1,q2,q3,q4⟩:=DR (p:=q) (g:=di t) h0
  unfold wL at hi
  generalize iD n p (di t)=b at*
  generalize iD n q (di t)=e at*
  generalize di t=g at*
  have key: ∀ T g':Int,1≤g'→i<bV 0 (Int.tdiv T g')→(i+1)*g'≤T:=fun T g' hg h=>by
    rw[wZ]at h
    rcases Int.lt_or_le T 0 with hT|hT
    · have e:T= -(-T):=ae
      rw[e,Int.neg_tdiv]at h
      have h1:0<=Int.tdiv (-T) g':=Int.tdiv_nonneg ae ae
      split at h <;> omega
    · rw[Int.tdiv_eq_ediv_of_nonneg hT]at h
      have h2:i+1<=T / g':=by split at h <;> omega
      exact(Int.le_ediv_iff_mul_le ae).1 h2
  by_cases hg:g<0
  · rw[if_pos hg,if_pos hg]at hi
    have k:=key _ _ ae hi
    rw[Int.add_mul,Int.mul_neg]at k
    have m:i*g<=0:=by have:=Int.mul_nonneg hi0 (show 0<= -g by omega);rw[Int.mul_neg]at this;omega
    have:=p3 hg
    have:=q1
    omega
  · rw[if_neg hg,if_neg hg]at hi
    have k:=key _ _ ae hi
    rw[Int.add_mul]at k
    have m:0<=i*g:=Int.mul_nonneg hi0 ae
    have:=p4 hg
    omega
theorem ak7{fu:Nat}{n p q t:Int}(h0:0≤n)(h4:n≤4096)(hp: -9223372036854775808≤p∧p<9223372036854775808)(hq: -9223372036854775808≤q∧q<9223372036854775808)(ht:t≠0):jy fu n p q t=some (wL n p q t):=by
  obtain⟨c1,c2,c3⟩:=QV (t:=t)
  have hz:=c3 ht
  have e3: ∀ a b g:Int, -4097≤a∧a≤4097→ -4097≤b∧b≤4097→1≤g∧g≤4097→jy.k3 fu a b g=some (bV 0 (Int.tdiv (b - a+g - 1) g)):=fun a b g ha hb hg=>by
    unfold jy.k3
    have:=azN (a:=b - a+g - 1) (b:=g) ae hg.1
    rw[aI ae,bi (x:=b - a) ae ae,bi (x:=b - a+g) ae ae,bi (x:=b - a+g - 1) ae ae,bi ae ae]
  have e2:jy.k2 fu n t (fromV n p) (fromV n q)=some (wL n p q t):=by
    obtain⟨p1,p2,p3,p4⟩:=DR (p:=p) (g:=di t) h0
    obtain⟨q1,q2,q3,q4⟩:=DR (p:=q) (g:=di t) h0
    unfold jy.k2
    rw[dB]
    have hc:bV (iH t 4097) (-4097)=di t:=rfl
    rw[hc,bi (x:=n - 1) ae ae]
    unfold wL
    by_cases hg:di t<0
    · have b1:iD n p (di t)=bV (iH (fromV n p) (n - 1)) (-1):=if_pos hg
      have b2:iD n q (di t)=bV (iH (fromV n q) (n - 1)) (-1):=if_pos hg
      rw[if_pos hg,if_pos hg,if_pos hg,← b1,← b2,bi (x:=0 - iD n p (di t)) ae ae,bi (x:=0 - iD n q (di t)) ae ae,bi (x:=0 - di t) ae ae,e3 _ _ _ ae ae ae]
      have a1:0 - iD n q (di t) - (0 - iD n p (di t))+(0 - di t) - 1=iD n p (di t) - iD n q (di t) - di t - 1:=ae
      have a2:0 - di t= -(di t):=ae
      rw[a1,a2]
    · have b1:iD n p (di t)=bV (iH (fromV n p) n) 0:=if_neg hg
      have b2:iD n q (di t)=bV (iH (fromV n q) n) 0:=if_neg hg
      have:=p4 hg
      have:=q4 hg
      rw[if_neg hg,if_neg hg,if_neg hg,← b1,← b2,e3 _ _ _ ae ae ae]
  have e1:jy.k1 fu n q t (fromV n p)=some (wL n p q t):=by
    unfold jy.k1
    rw[dB]
    by_cases h:q<0
    · have:fromV n q=q+n:=if_pos h
      rw[if_pos h,bi ae ae,← this,e2]
    · have:fromV n q=q:=if_neg h
      rw[this]at e2
      rw[if_neg h,e2]
  unfold jy
  rw[dB]
  by_cases h:p<0
  · have:fromV n p=p+n:=if_pos h
    rw[if_pos h,bi ae ae,← this,e1]
  · have:fromV n p=p:=if_neg h
    rw[this]at e1
    rw[if_neg h,e1]
def ax(n:Nat)(A:List Int)(j:Nat):Nat:=((iC (gI A j) n).getD 0).toNat
theorem VN{n:Nat}: ∀ {A:List Int} {m:List Bool} {tw:Bool},m.length=n→(ja n A m tw).2=0→ ∀ i,i<A.length→iC (gI A i) n=some (ax n A i:Int)∧ax n A i<n∧m.getD (ax n A i) false=false∧ ∀ j,j<i→ax n A j≠ax n A i
  |[],m,tw,_,_=>λi hi=>by simp at hi
  | a :: A,m,tw,hm,h=>by
    unfold ja at h
    cases hk:iC a n with
    |none=>rw[hk]at h;simp at h
    | some k=>
      rw[hk]at h
      simp only at h
      have hr:=GL hk
      have e0:ax n (a::A) 0=k.toNat:=by unfold ax;show((iC a n).getD 0).toNat=_;rw[hk];rfl
      have hb:m.getD k.toNat false=false∧(tw || m.getD k.toNat false)=(tw || false):=by
        by_cases hb:m.getD k.toNat false=true
        · rw[hb]at h;simp only[Bool.or_true]at h;exact absurd h Pq
        · have:m.getD k.toNat false=false:=by simpa using hb
          rw[this];exact⟨rfl,rfl⟩
      have ih:=VN (A:=A) (by simp[hm]) h
      intro i hi
      cases i with
      | zero=>
        refine⟨?_,by omega,by rw[e0];exact hb.1,λj hj=>by omega⟩
        rw[e0,Int.toNat_of_nonneg hr.1];exact hk
      | succ i=>
        obtain⟨h1,h2,h3,h4⟩:=ih i (by simpa using hi)
        have es: ∀ j,ax n (a::A) (j+1)=ax n A j:=λj=>rfl
        rw[KR ae]at h3
        have hne:k.toNat≠ax n A i:=λe=>by rw[if_pos e]at h3;cases h3
        rw[if_neg hne]at h3
        rw[es]
        refine⟨h1,h2,h3,λj hj=> ?_⟩
        cases j with
        |zero=>rw[e0];exact hne
        |succ j=>rw[es];exact h4 j ae
structure wo (n:Nat) (p q A T:List Int):Prop where
  lq:q.length=p.length
  lA:A.length=p.length
  lT:T.length=p.length
  in_: ∀ j,j<p.length->iC (gI A j) n=some (ax n A j:Int)/\ax n A j<n
  inj: ∀ i j,i<j->j<p.length->ax n A i≠ax n A j
  nz: ∀ j,j<p.length->gI T j≠0
def dN(X p q A T:List Int):Nat→List Int
  |0=>X
  |m+1=>(dN X p q A T m).set (ax X.length A m) (wL (gI X (ax X.length A m)) (gI p m) (gI q m) (gI T m))
section
variable {X p q A T:List Int}
theorem qW: ∀ m,(dN X p q A T m).length=X.length
  |0=>rfl
  |m+1=>by rw[dN,List.length_set];exact qW m
theorem D7{a:Nat}(ha:a<X.length): ∀ m,(∀ j,j<m→ax X.length A j≠a)→gI (dN X p q A T m) a=gI X a
  |0,_=>rfl
  | m+1,h=>by
    have hm:=h m ae
    rw[dN]
    by_cases c:ax X.length A m<X.length
    · rw[mM (by rw[qW];exact c),if_neg hm];exact D7 ha m λj hj=>h j ae
    · rw[List.set_eq_of_length_le (by rw[qW];omega)];exact D7 ha m λj hj=>h j ae
theorem Q8(h:wo X.length p q A T){j:Nat}: ∀ m,m≤p.length→j<m→gI (dN X p q A T m) (ax X.length A j)=wL (gI X (ax X.length A j)) (gI p j) (gI q j) (gI T j)
  |0,_,hj=>by omega
  | m+1,hm,hj=>by
    have hm':=h.in_ m ae
    rw[dN,mM (by rw[qW];exact hm'.2)]
    by_cases e:j=m
    · subst e;rw[if_pos rfl]
    · rw[if_neg (λh'=>h.inj j m ae ae h'.symm)];exact Q8 h m ae ae
end
def lU(l:List aP)(n:Nat):List Int:=if(vl l 3).fType=0 then(List.range n).map λ(a:Nat)=>(a:Int)else nm l 3
def oZ(l:List aP)(n:Nat):List Int:=if(vl l 4).fType=0 then List.replicate n 1 else nm l 4
section
variable {fu:Nat} {s:dh} {l:List aP}
theorem ER{i:Nat}(h:(vl l i).fType=0):nm l i=[]:=if_pos h
theorem ay0(hg:Good (vl l 0).fDims)(hd: ∀ i,(vl l i).fType≠0→HD fu (vl l i))(hr: ∀ i,∀ x ∈ nm l i, -9223372036854775808≤x∧x<9223372036854775808)(hf:6000<fu):
    bu (λd=>wo (vl l 0).fDims.length (nm l 1) (nm l 2) (lU l (nm l 1).length) (oZ l (nm l 1).length)/\d=dN (vl l 0).fDims (nm l 1) (nm l 2) (lU l (nm l 1).length) (oZ l (nm l 1).length) (nm l 1).length) (eu fu ⟨49,s,l,1⟩):=by
  have hn1:=rE 1 (hd 1)
  have hn2:=rE 2 (hd 2)
  have hn3:=rE 3 (hd 3)
  have hn4:=rE 4 (hd 4)
  unfold eu
  rw[iR,ai,rV (vk hg),ai,zy (hd 1) ae,ai,avk (hd 2) ae,ai,avm (hd 3) ae,ai,avn (hd 4) ae,ai,dB]
  have hr1:=hr 1
  have hr2:=hr 2
  have hg8:=hg.1
  unfold eu.W2
  have hA:(lU l (nm l 1).length).length<=4096:=by unfold lU;split <;> simp[hn1,hn3]
  have hA0:lU l 0=nm l 3:=by
    unfold lU
    split
    · rename_i h;rw[ER h];rfl
    · rfl
  have hT0:oZ l 0=nm l 4:=by
    unfold oZ
    split
    · rename_i h;rw[ER h];rfl
    · rfl
  rw[← hA0,← hT0]
  refine jC (nm l 1).length (λm (st:List Int×List Int×Int)=>st=(lU l m,oZ l m,(m:Int))) _ ?_ ?_ rfl ae
  · rintro m st next hm rfl hx
    dsimp only
    unfold eu.L2
    rw[if_pos ae,dB,aqk,ai]
    have k4:eu.k4 fu (fun a b c=>next (a,b,c)) ⟨49,s,l,1⟩ (oZ l m) (m:Int) (lU l (m+1))=next (lU l (m+1),oZ l (m+1),((m+1:Nat):Int)):=by
      unfold eu.k4
      rw[aql,ai,dL ae]
      by_cases h4:(vl l 4).fType=0
      · have e:oZ l m=List.replicate m 1:=if_pos h4
        have e':oZ l (m+1)=List.replicate (m+1) 1:=if_pos h4
        rw[if_neg (by simpa using h4),e,e',aI (by simp;omega),List.replicate_succ']
      · have e:oZ l m=oZ l (m+1):=by unfold oZ;rw[if_neg h4,if_neg h4]
        rw[if_pos (by simpa using h4),e]
    by_cases h3:(vl l 3).fType=0
    · have e:lU l m=(List.range m).map fun(a:Nat)=>(a:Int):=if_pos h3
      have e':lU l (m+1)=lU l m++[(m:Int)]:=by
        rw[e]
        show(if _ then _ else _)=_
        rw[if_pos h3,List.range_succ,List.map_append];rfl
      have hl:(lU l m).length=m:=by rw[e];simp
      rw[if_neg (by simpa using h3),aI (by rw[hl];omega),← e',k4]
      exact hx _ rfl
    · have e:lU l m=lU l (m+1):=by unfold lU;rw[if_neg h3,if_neg h3]
      rw[if_pos (by simpa using h3),e,k4]
      exact hx _ rfl
  · rintro st next rfl
    dsimp only
    unfold eu.L2
    rw[if_neg ae]
    generalize lU l (nm l 1).length=A at*
    generalize oZ l (nm l 1).length=T at*
    generalize nm l 1=p at*
    generalize nm l 2=q at*
    generalize (vl l 0).fDims=X at*
    unfold eu.k1
    rw[NV hg8 ae ae,ai,dB]
    by_cases c1:(q.length:Int)=(p.length:Int)
    rotate_left
    · rw[if_neg c1];exact gK
    rw[if_pos c1]
    by_cases c2:(A.length:Int)=(p.length:Int)
    rotate_left
    · rw[if_neg c2];exact gK
    rw[if_pos c2]
    by_cases c3:(T.length:Int)=(p.length:Int)
    rotate_left
    · rw[if_neg c3];exact gK
    rw[if_pos c3]
    by_cases c4:(ja X.length A (List.replicate X.length false) false).2=0
    rotate_left
    · rw[if_neg c4];exact gK
    rw[if_pos c4,Gg (by unfold Short;omega) ae,ai]
    by_cases c5:(T.any λy=>decide ((0:Int)=y))=true
    · rw[if_pos c5];exact gK
    rw[if_neg c5]
    have ha:=VN (by simp) c4
    have hs:wo X.length p q A T:=⟨by omega,by omega,by omega,fun j hj=>⟨(ha j ae).1,(ha j ae).2.1⟩,fun i j hij hj=>(ha j ae).2.2.2 i hij,fun j hj h0=>c5 (List.any_eq_true.2 ⟨gI T j,by
      rw[cu ae];exact List.getElem_mem _,by simp[h0]⟩)⟩
    unfold eu.k2 eu.W1
    rw[dB]
    refine jC p.length (λm (st:List Int×Int)=>st=(dN X p q A T m,(m:Int))) _ ?_ ?_ rfl ae
    · rintro m st next hm rfl hx
      dsimp only
      unfold eu.L1
      obtain⟨a1,a2⟩:=hs.in_ m hm
      have hX:=hg.2.1 _ (List.getElem_mem a2)
      rw[← cu a2]at hX
      rw[if_pos ae,bY ae,ai,qW,xU ae,a1,ai]
      dsimp only
      rw[bY (by rw[qW];exact a2),ai,D7 a2 m (λj hj=>hs.inj j m hj hm),bY hm,ai,bY ae,ai,bY ae,ai,ak7 hX.1 hX.2 ?_ ?_ (hs.nz m hm),ai,aI ae,Int.toNat_natCast,dL ae]
      · exact hx _ rfl
      · rw[cu hm];exact hr1 _ (List.getElem_mem _)
      · rw[cu (show m<q.length by omega)];exact hr2 _ (List.getElem_mem _)
    · rintro st next rfl
      dsimp only
      unfold eu.L1 eu.k3
      rw[if_neg ae]
      exact oV ⟨hs,rfl⟩
end
end Go.Av
namespace Go.Av
theorem abm{op:Int}(h:iZ op):op=45∨op=46∨op=47∨op=48∨op=49∨op=50∨op=51∨op=52∨op=53∨op=54∨op=55∨op=56∨op=57∨op=58∨op=59∨op=60∨op=62∨op=63∨op=64:=by
  unfold iZ at h;omega
section
variable {fu:Nat} {op:Int} {s:dh} {l:List aP}
theorem ayL(h:iZ op):fV fu ⟨op,s,l,1⟩=(dA fu ⟨op,s,l,1⟩).bind fun x=>some (x.1,x.2):=by
  rcases abm h with rfl|rfl|rfl|rfl|rfl|rfl|rfl|rfl|rfl|rfl|rfl|rfl|rfl|rfl|rfl|rfl|rfl|rfl|rfl <;>
    (unfold fV;rw[iR,ai];rfl)
theorem aux{R:List Int→Prop}(h:bu R (dM fu ⟨46,s,l,1⟩)):bu R (dA fu ⟨46,s,l,1⟩):=by
  unfold dA;rw[iR,ai];exact h.pair
theorem auy{R:List Int→Prop}(h:bu R (lF fu ⟨47,s,l,1⟩)):bu R (dA fu ⟨47,s,l,1⟩):=by
  unfold dA;rw[iR,ai];exact h.pair
theorem auz{R:List Int→Prop}(h:bu R (eQ fu ⟨48,s,l,1⟩)):bu R (dA fu ⟨48,s,l,1⟩):=by
  unfold dA;rw[iR,ai];exact h.pair
theorem auA{R:List Int→Prop}(h:bu R (eu fu ⟨49,s,l,1⟩)):bu R (dA fu ⟨49,s,l,1⟩):=by
  unfold dA;rw[iR,ai];exact h.pair
theorem auB{R:List Int→Prop}(h:bu R (fU fu ⟨53,s,l,1⟩)):bu R (dA fu ⟨53,s,l,1⟩):=by
  unfold dA;rw[iR,ai];exact h.pair
theorem auC{R:List Int→Prop}(h:bu R (iT fu ⟨54,s,l,1⟩)):bu R (dA fu ⟨54,s,l,1⟩):=by
  unfold dA;rw[iR,ai];exact h.pair
theorem auD{R:List Int→Prop}(h:bu R (iT fu ⟨55,s,l,1⟩)):bu R (dA fu ⟨55,s,l,1⟩):=by
  unfold dA;rw[iR,ai];exact h.pair
theorem auE{R:List Int→Prop}(h:bu R (jf fu ⟨56,s,l,1⟩)):bu R (dA fu ⟨56,s,l,1⟩):=by
  unfold dA;rw[iR,ai];exact h.pair
theorem auF{R:List Int→Prop}(h:bu R (jf fu ⟨57,s,l,1⟩)):bu R (dA fu ⟨57,s,l,1⟩):=by
  unfold dA;rw[iR,ai];exact h.pair
theorem BN{R:List Int→Prop}(hop:op=58∨op=59∨op=60∨op=62∨op=63∨op=64)(h:bu R (iw fu ⟨op,s,l,1⟩)):bu R (dA fu ⟨op,s,l,1⟩):=by
  rcases hop with rfl|rfl|rfl|rfl|rfl|rfl <;> (unfold dA;rw[iR,ai];exact h.pair)
theorem avi{R:List Int→Prop}(h:iZ op)(hs:wu fu s)(hg: ∀ v ∈ l,Good v.fDims)(hd: ∀ i,(vl l i).fType≠0→HD fu (vl l i))(hR: ∀ d,R d→d.length≤4096)
    (hm:Full op l->AH op s l->bu R (dA fu ⟨op,s,l,1⟩)) (hf:6000<fu):
    ∃ vs e,kP fu op s l 1=some (vs,e)/\(e=0->Full op l/\AH op s l/\ ∃ d,vs=[rF (MH op s l) d]/\R d/\Good d):=by
  unfold kP
  obtain⟨b,hb,hb2⟩:=ak8 (fu:=fu) (s:=s) (l:=l) h ae
  rw[hb,ai]
  by_cases c1:b=true
  rotate_left
  · rw[if_neg c1];exact⟨_,_,rfl,λh=>absurd h au⟩
  rw[if_pos c1]
  have hfl:=hb2 c1
  have har:=Pm h
  have hl64:l.length<=64:=by have:=hfl.2.1;omega
  have hg0:Good (vl l 0).fDims:=by
    have h1:0<l.length:=by have:=hfl.1;omega
    unfold vl
    rw[List.getD_eq_getElem?_getD,List.getElem?_eq_getElem h1]
    exact hg _ (List.getElem_mem h1)
  obtain⟨w,hw,hw2⟩:=aAS h hs hl64 hg hg0.1 hd ae
  rw[hw,ai]
  by_cases c2:w=0
  rotate_left
  · rw[if_neg c2];exact⟨_,_,rfl,λh=>absurd h c2⟩
  rw[if_pos c2,ayL h]
  obtain⟨l',e,he,he2⟩:=hm hfl (hw2 c2)
  rw[he,ai,ai]
  dsimp only
  by_cases c3:e=0
  rotate_left
  · rw[if_neg c3];exact⟨_,_,rfl,λh=>absurd h c3⟩
  rw[if_pos c3]
  obtain⟨d,rfl,hd2⟩:=he2 c3
  have hdl:=hR d hd2
  unfold kP.W1
  obtain⟨q,hq⟩: ∃ q,fu=q+2:=⟨fu - 2,by omega⟩
  rw[show aT _ fu (([]:List aP),(0:Int))=aT _ (q+1+1) (([]:List aP),(0:Int))by rw[hq],dC]
  dsimp only
  unfold kP.L1
  rw[if_pos (by simp)]
  show ∃ vs e,(some d).bind _=some (vs,e)/\_
  rw[ai,uN (by unfold Short;omega) ae,ai]
  by_cases gd:Good d
  · rw[jP,if_pos gd,if_pos rfl,awe h,ai,rV (vk gd),ai,aI (by simp)]
    show ∃ vs e',aT _ (q+1) _=some (vs,e')/\_
    rw[dC]
    exact⟨_,_,rfl,λ_=>⟨hfl,hw2 c2,d,rfl,hd2,gd⟩⟩
  · rw[jP,if_neg gd,if_neg (ui d)]
    exact⟨_,_,rfl,λh=>absurd h au⟩
end
end Go.Av
namespace Go.Av
def ku(x y:aj):Prop:=dQ y=0/\ ∀ z ∈ y.fI,z ∈ x.fI
section
variable {fu:Nat} {x:aj} {d:List Int} {p2:List Int->Option Int}
theorem Cb(hs:Small x)(hft:Fuel fu x)(hc:dQ x=0)(hge:Good d)(hf:5000<fu)
    (hp:(∀ z ∈ d,1<=z)-> ∀ k:Nat,(k:Int)<aO d-> ∃ c:List Int,c.length=x.fDims.length/\jd x.fDims c=true/\p2 (bF d (k:Int))=some (nY x.fDims c)): ∃ y,cO fu x d p2=some y/\ku x y:=by
  obtain⟨hk,hg,hL⟩:=gQ.1 hc
  obtain⟨N,hN⟩:=Int.eq_ofNat_of_zero_le (uB hge.2.1)
  obtain⟨M,hM⟩:=Int.eq_ofNat_of_zero_le (uB hg.2.1)
  have hr: ∀ k:Nat,k<N→p2 (bF d (k:Int))=some ((p2 (bF d (k:Int))).getD 0)∧0≤(p2 (bF d (k:Int))).getD 0∧(p2 (bF d (k:Int))).getD 0<M:=fun k hk=>by
    obtain⟨c,c1,c2,c3⟩:=hp (Ui hge ae) k ae
    have:=xA (λz hz=>(hg.2.1 z hz).1) c1 c2
    rw[c3]
    exact⟨rfl,this.1,by rw[← hM];exact this.2⟩
  refine⟨_,ab9 (N:=N) (f:=λk=>(p2 (bF d (k:Int))).getD 0) hs hft hge hN hf λk hk=>(hr k hk).1,?_⟩
  have hP:Gq d N M (λk=>(p2 (bF d (k:Int))).getD 0) x:=⟨hc,hge,hN,hM,λk hk=>by have:=(hr k hk).2;omega⟩
  refine⟨awr hP,?_⟩
  have e:=Uf hP
  unfold pTq at e
  rw[e]
  intro z hz
  split at hz
  · cases hz
  · rename_i h1
    split at hz
    · rename_i h7
      unfold pl at hz
      rw[List.map_map]at hz
      obtain⟨k,hk,rfl⟩:=List.mem_map.1 hz
      have hk:=List.mem_range.1 hk
      have hl:(x.fI.length:Int)=M:=by have:=hL.2.1;rw[if_pos h7,hM]at this;exact this
      have:=(hr k hk).2
      rw[Function.comp,aww this.1 ae]
      exact List.getElem_mem _
    · cases hz
theorem MI(hs:Small x)(hft:Fuel fu x)(hge:Good d)(hf:5000<fu)
    (hp:(∀ z ∈ d,1<=z)-> ∀ k:Nat,(k:Int)<aO d-> ∃ v,p2 (bF d (k:Int))=some v): ∃ y,cO fu x d p2=some y:=by
  obtain⟨N,hN⟩:=Int.eq_ofNat_of_zero_le (uB hge.2.1)
  refine⟨_,ab9 (N:=N) (f:=λk=>(p2 (bF d (k:Int))).getD 0) hs hft hge hN hf λk hk=> ?_⟩
  obtain⟨v,hv⟩:=hp (Ui hge ae) k ae
  rw[hv];rfl
end
def dG(xs ys:List Int):Nat→Int
  |0=>0
  |m+1=>dG xs ys m+gI xs m*gI ys m
theorem Zw{x y:Int}{xs ys:List Int}: ∀ m,dG (x::xs) (y::ys) (m+1)=x*y+dG xs ys m
  |0=>by simp[dG,gI]
  | m+1=>by
    rw[dG,Zw m,dG]
    have e1:gI (x::xs) (m+1)=gI xs m:=rfl
    have e2:gI (y::ys) (m+1)=gI ys m:=rfl
    rw[e1,e2];omega
theorem D6: ∀ {xs ys:List Int},xs.length=ys.length→dG xs ys ys.length=gX xs ys
  |[],[],_=>rfl
  | x::xs,y::ys,h=>by
    rw[List.length_cons,Zw,D6 (by simpa using h)];rfl
theorem BM{a b A B:Int}(ha:0≤a∧a≤A)(hb: -B≤b∧b≤B): -(A*B)≤a*b∧a*b≤A*B:=by
  have h1:a*b<=a*B:=Int.mul_le_mul_of_nonneg_left hb.2 ha.1
  have h2:a*B<=A*B:=Int.mul_le_mul_of_nonneg_right ha.2 ae
  have h3:a*(-B)<=a*b:=Int.mul_le_mul_of_nonneg_left hb.1 ha.1
  rw[Int.mul_neg]at h3
  omega
theorem Be{xs ys:List Int}{n:Nat}(hx: ∀ i,i<n→0≤gI xs i∧gI xs i≤4096)(hy: ∀ i,i<n→ -33554432≤gI ys i∧gI ys i≤33554432): ∀ m,m≤n→ -(137438953472*(m:Int))≤dG xs ys m∧dG xs ys m≤137438953472*(m:Int)
  |0,_=>by simp[dG]
  | m+1,hm=>by
    have ih:=Be hx hy m ae
    have:=BM (hx m ae) (hy m ae)
    rw[dG];omega
section
variable {fu:Nat}
theorem JQ{xs ys:List Int}(hl:ys.length≤xs.length)(hn:ys.length≤8)(hx: ∀ i,i<ys.length→0≤gI xs i∧gI xs i≤4096)(hy: ∀ i,i<ys.length→ -33554432≤gI ys i∧gI ys i≤33554432)(hf:200<fu):dY fu xs ys=some (dG xs ys ys.length):=by
  unfold dY dY.W1
  have hz:((0:Int),(0:Int))=(λm:Nat=>(dG xs ys m,(m:Int))) 0:=rfl
  rw[hz]
  refine D5 ys.length (λm:Nat=>(dG xs ys m,(m:Int))) _ ?_ ?_ ae
  · intro m hm next hnx
    have r1:=Be hx hy m ae
    have r2:=BM (hx m hm) (hy m hm)
    dsimp only
    unfold dY.L1
    rw[if_pos ae,bY hm,ai,bY ae,ai,dL ae,bi (x:=gI xs m*gI ys m) ae ae,bi ae ae]
    exact hnx
  · intro next
    dsimp only
    unfold dY.L1
    rw[if_neg ae]
theorem ZJ{xs ys:List Int}(hl:ys.length≤xs.length)(hn:ys.length≤1000000)(hf:ys.length<fu): ∃ v,dY fu xs ys=some v:=by
  unfold dY dY.W1
  refine jC ys.length (λm (s:Int×Int)=>s.2=(m:Int)) (λr=> ∃ v,r=some v) ?_ ?_ rfl hf
  · rintro m ⟨a,i⟩ next hm rfl hx
    dsimp only
    unfold dY.L1
    rw[if_pos ae,bY hm,ai,bY ae,ai,dL ae]
    exact hx _ rfl
  · rintro⟨a,i⟩ next rfl
    dsimp only
    unfold dY.L1
    rw[if_neg ae]
    exact⟨_,rfl⟩
theorem BD{l:List Int}(hg:Good l)(hp: ∀ z ∈ l,1≤z){k:Nat}(hk:(k:Int)<aO l):(bF l (k:Int)).length=l.length∧jd l (bF l (k:Int))=true∧ ∀ j,j<l.length→0≤gI (bF l (k:Int)) j∧gI (bF l (k:Int)) j<gI l j∧gI l j≤4096:=by
  have ok:=zA hp (show(0:Int)<=(k:Int)by omega) hk
  refine⟨qC _ _,ok,λj hj=> ?_⟩
  have h1:=BR (qC l _) ok j hj
  have h2:=hg.2.1 _ (List.getElem_mem hj)
  rw[← cu hj]at h2
  omega
theorem aah: ∀ {d:List Int} {k:Nat},k<d.length→gI (bg d) k=aO (d.drop (k+1))
  |e::d,0,_=>by simp[bg,gI]
  | e::d,k+1,h=>by
    have ih:=aah (d:=d) (k:=k) (by simpa using h)
    simpa[bg,gI]using ih
theorem Fq{d:List Int}{k:Nat}(hp: ∀ x ∈ d,1≤x)(hg:Good d)(hk:k<d.length):1≤gI (bg d) k∧gI (bg d) k≤4096:=by
  have:=awG hp (k+1)
  have:=hg.2.2
  rw[aah hk];omega
theorem CY{d:List Int}(hp: ∀ x ∈ d,1<=x)(hg:Good d):dK d=bg d:=CZ hp (by have:=hg.2.2;omega)
end
section
variable {fu:Nat} {s:dh} {L:List aj} {x:aj} {a:Int} {d:List Int}
theorem avz(hs:Small x)(hft:Fuel fu x)(hc:dQ x=0)(hss:wu fu s)(hp:mi (pV s x.fDims.length) x.fDims.length)(hd:d=act (pV s x.fDims.length) x.fDims)(hf:6000<fu): ∃ y,eX fu ⟨45,s,L,x,a⟩ d []=some y∧ku x y:=by
  obtain⟨hk,hg,hL⟩:=gQ.1 hc
  obtain⟨hgd,hpe⟩:=az6 hg hp
  have h8:=hg.1
  have hsl:=qI x.fDims
  have e:eX fu ⟨45,s,L,x,a⟩ d []=(gZ fu ⟨45,s,L,x,a⟩ d).bind λx=>some x:=rfl
  rw[e]
  suffices h: ∃ y,gZ fu ⟨45,s,L,x,a⟩ d=some y∧ku x y by
    obtain⟨y,h1,h2⟩:=h
    rw[h1];exact⟨y,rfl,h2⟩
  unfold gZ
  dsimp only
  rw[rJ hg ae,ai,rV ae,ai,hsl]
  unfold gZ.W1
  refine acW (L:=gZ.L1 fu ⟨45,s,L,x,a⟩ d (dK x.fDims) (dK x.fDims)) (Q:=λr=> ∃ y,r=some y/\ku x y) (X:=dK x.fDims) (n:=x.fDims.length) hsl h8 ae (λnx O i j=>by rw[gZ.L1,hsl]) λO h1 h2=> ?_
  rw[dB]
  unfold gZ.W2
  rw[ab6 (P:=s.fPerm) (X:=dK x.fDims) (fun b O i=>(O,b,i)) (k:=fun b O=>gZ.k1 fu ⟨45,s,L,x,a⟩ d O b) hss.permf hss.perm (fun next b O i=>rfl) fun hb=>by
    have e:pV s x.fDims.length=s.fPerm:=if_pos hb
    rw[e]at hp
    exact⟨by rw[hsl];exact hp.len,by rw[hsl];exact h1,λi hi=>by rw[hsl]at hi ⊢;exact hp.get hi⟩]
  have hO:(if s.fHasPerm=true then act s.fPerm (dK x.fDims)else O)=act (pV s x.fDims.length) (dK x.fDims):=by
    unfold pV
    split
    · rfl
    · have:=acV (X:=dK x.fDims) (O:=O) (by rw[hsl];exact h1) (fun a ha=>by rw[hsl]at ha ⊢;exact h2 a ha)
      rw[hsl]at this
      exact this
  rw[hO]
  unfold gZ.k1
  dsimp only
  obtain⟨y,h1,h2⟩:=Cb (p2:=fun y0=>xu fu y0 (act (pV s x.fDims.length) (dK x.fDims))) hs hft hc (d:=d) (by rw[hd];exact hgd) ae fun hpos k hk=>by
    subst hd
    have hP:=O4 hp
    have hxp: ∀ z ∈ x.fDims,1<=z:=λz hz=>hpos z (hP.mem_iff.2 hz)
    rw[hpe]at hk
    obtain⟨i,i1,i2,i3,i4⟩:=az7 hp hxp (k:=(k:Int)) ae hk
    refine⟨i,i1,i2,?_⟩
    have hr:=xA (λz hz=>(hg.2.1 z hz).1) i1 i2
    have hpr:=hg.2.2
    unfold xu
    rw[CY hxp hg]
    have hok:=zA hpos (show(0:Int)<=(k:Int)by omega) (by rw[hpe];exact hk)
    have h0: ∀ z ∈ bF (act (pV s x.fDims.length) x.fDims) (k:Int),0<=z:=aar hpos ae (by rw[hpe];exact hk)
    have hd2:gX (bF (act (pV s x.fDims.length) x.fDims) (k:Int)) (act (pV s x.fDims.length) (bg x.fDims))=nY x.fDims i:=i4
    rw[JR (by rw[qC,lQ,lQ]) h0 (λz hz=> ?_) (by rw[hd2];omega) (by rw[lQ,hp.len];omega) ae,ai,hd2]
    unfold act at hz
    obtain⟨j,hj,rfl⟩:=List.mem_map.1 hz
    unfold gI
    rw[List.getD_eq_getElem?_getD]
    by_cases c:j.toNat<(bg x.fDims).length
    · rw[List.getElem?_eq_getElem c];exact zV hxp _ (List.getElem_mem c)
    · rw[List.getElem?_eq_none ae];exact Int.le_refl _
  rw[h1,ai]
  exact⟨y,rfl,h2⟩
def tC(X d i:List Int):List Int:=(List.range X.length).map λb=>Int.tmod (gI i (d.length - X.length+b)) (gI X b)
theorem Nw{X i:List Int}:(tC X d i).length=X.length:=by simp[tC]
theorem adx{X i:List Int}{b:Nat}(h:b<X.length):gI (tC X d i) b=Int.tmod (gI i (d.length - X.length+b)) (gI X b):=by
  rw[cu (by rw[Nw];exact h)];simp[tC]
theorem adC{op:Int}(hs:Small x)(hft:Fuel fu x)(hc:dQ x=0)(hgd:Good d)(hw:DD x.fDims d)(hf:6000<fu): ∃ y,vJ fu ⟨op,s,L,x,a⟩ d=some y∧ku x y:=by
  obtain⟨hk,hg,hL⟩:=gQ.1 hc
  have h8:=hg.1
  have h8d:=hgd.1
  unfold vJ
  dsimp only
  rw[rJ hg ae,ai]
  obtain⟨y,h1,h2⟩:=Cb (p2:=fun y0=>nV fu y0 x.fDims (dK x.fDims)) hs hft hc hgd ae fun hpos k hk=>by
    have hxp:=hw.2 hpos
    obtain⟨i1,i2,i3⟩:=BD hgd hpos hk
    have hm: ∀ b,b<x.fDims.length→0≤gI (tC x.fDims d (bF d (k:Int))) b∧gI (tC x.fDims d (bF d (k:Int))) b<gI x.fDims b∧gI x.fDims b≤4096:=fun b hb=>by
      have hX:=hxp _ (List.getElem_mem hb)
      have hX4:=hg.2.1 _ (List.getElem_mem hb)
      rw[← cu hb]at hX hX4
      have:=(i3 (d.length - x.fDims.length+b) (by have:=hw.1;omega)).1
      rw[adx hb]
      exact⟨Int.tmod_nonneg _ this,Int.tmod_lt_of_pos _ ae,hX4.2⟩
    refine⟨tC x.fDims d (bF d (k:Int)),Nw,zB Nw λb hb=>⟨(hm b hb).1,(hm b hb).2.1⟩,?_⟩
    rw[CY hxp hg,← qx,← D6 (by rw[Nw,iV]),iV]
    unfold nV nV.W1
    have hz:((0:Int),(0:Int))=(λm:Nat=>(dG (tC x.fDims d (bF d (k:Int))) (bg x.fDims) m,(m:Int))) 0:=rfl
    rw[hz]
    have hx4: ∀ b,b<x.fDims.length->0<=gI (tC x.fDims d (bF d (k:Int))) b/\gI (tC x.fDims d (bF d (k:Int))) b<=4096:=λb hb=>by have:=hm b hb;omega
    have hy4: ∀ b,b<x.fDims.length-> -33554432<=gI (bg x.fDims) b/\gI (bg x.fDims) b<=33554432:=λb hb=>by have:=Fq hxp hg hb;omega
    refine D5 x.fDims.length (λm:Nat=>(dG (tC x.fDims d (bF d (k:Int))) (bg x.fDims) m,(m:Int))) _ ?_ ?_ ae
    · intro m hm2 next hnx
      have hw1:=hw.1
      have r1:=Be hx4 hy4 m ae
      have r2:=BM (hx4 m hm2) (hy4 m hm2)
      have hX:=hxp _ (List.getElem_mem hm2)
      rw[← cu hm2]at hX
      dsimp only
      unfold nV.L1
      have e1:wk .i64 ((wk .i64 (((bF d (k:Int)).length:Int) - (x.fDims.length:Int)))+(m:Int))=((d.length - x.fDims.length+m:Nat):Int):=by
        rw[i1,bi (x:=(d.length:Int) - (x.fDims.length:Int)) ae ae,bi ae ae];omega
      rw[if_pos ae,e1,bY ae,ai,bY hm2,ai,aI ae,bY (by rw[iV];exact hm2),ai,← adx (d:=d) hm2,dL ae,bi (x:=gI (tC x.fDims d (bF d (k:Int))) m*gI (bg x.fDims) m) ae ae,bi ae ae]
      exact hnx
    · intro next
      dsimp only
      unfold nV.L1
      rw[if_neg ae]
  rw[h1,ai]
  exact⟨y,rfl,h2⟩
end
end Go.Av
namespace Go.Av
def NR(B C:Nat):List Int→List Int
  |[a,b,c,d]=>[a,((b.toNat%C:Nat):Int),((c.toNat*B+b.toNat / C / B:Nat):Int),((d.toNat*B+b.toNat / C%B:Nat):Int)]
  |_=>[]
def NS(B C:Nat):List Int→List Int
  |[a,b,c,d]=>[a,(((c.toNat%B*B+d.toNat%B)*C+b.toNat:Nat):Int),((c.toNat / B:Nat):Int),((d.toNat / B:Nat):Int)]
  |_=>[]
theorem aps{p q r s:Nat}{i:List Int}(hl:i.length=4)(h:jd [(p:Int),(q:Int),(r:Int),(s:Int)] i=true): ∃ a b c d:Nat,i=[(a:Int),(b:Int),(c:Int),(d:Int)]∧a<p∧b<q∧c<r∧d<s:=by
  match i,hl with
  | [a,b,c,d],_=>
    simp only[jd,Bool.and_eq_true,decide_eq_true_eq,and_true]at h
    obtain⟨⟨h1,h2⟩,⟨h3,h4⟩,⟨h5,h6⟩,h7,h8⟩:=h
    exact⟨a.toNat,b.toNat,c.toNat,d.toNat,by rw[Int.toNat_of_nonneg h1,Int.toNat_of_nonneg h3,Int.toNat_of_nonneg h5,Int.toNat_of_nonneg h7],by omega,by omega,by omega,by omega⟩
theorem apt{p q r s a b c d:Nat}(h1:a<p)(h2:b<q)(h3:c<r)(h4:d<s):jd [(p:Int),(q:Int),(r:Int),(s:Int)] [(a:Int),(b:Int),(c:Int),(d:Int)]=true:=by
  simp[jd];omega
theorem rD{x y n B:Nat}(h1:x<n)(h2:y<B):x*B+y<n*B:=by
  have:(x+1)*B<=n*B:=Nat.mul_le_mul_right _ h1
  rw[Nat.add_mul]at this
  omega
theorem ZC{b C B:Nat}(h:b<C*B*B)(hC:1≤C)(hB:1≤B):b / C / B<B:=by
  rw[Nat.div_div_eq_div_mul]
  refine(Nat.div_lt_iff_lt_mul (Nat.mul_pos hC hB)).2 ?_
  rw[Nat.mul_comm B]
  exact h
section
variable {A C H W B:Nat} {i:List Int}
theorem adY(hB:1≤B)(hC:1≤C)(hl:i.length=4)(h:jd (dD A C H W B) i=true):(NR B C i).length=4∧jd (dS A C H W B) (NR B C i)=true:=by
  obtain⟨a,b,c,d,rfl,h1,h2,h3,h4⟩:=aps hl h
  refine⟨rfl,?_⟩
  show jd (dS A C H W B) [(a:Int),((b%C:Nat):Int),((c*B+b / C / B:Nat):Int),((d*B+b / C%B:Nat):Int)]=true
  exact apt h1 (Nat.mod_lt _ hC) (rD h3 (ZC h2 hC hB)) (rD h4 (Nat.mod_lt _ hB))
theorem adZ(hB:1≤B)(hl:i.length=4)(h:jd (dS A C H W B) i=true):(NS B C i).length=4∧jd (dD A C H W B) (NS B C i)=true:=by
  obtain⟨a,b,c,d,rfl,h1,h2,h3,h4⟩:=aps hl h
  refine⟨rfl,?_⟩
  show jd (dD A C H W B) [(a:Int),(((c%B*B+d%B)*C+b:Nat):Int),((c / B:Nat):Int),((d / B:Nat):Int)]=true
  refine apt h1 ?_ ((Nat.div_lt_iff_lt_mul hB).2 h3) ((Nat.div_lt_iff_lt_mul hB).2 h4)
  have:=rD (rD (Nat.mod_lt c hB) (Nat.mod_lt d hB)) h2
  rw[Nat.mul_assoc C,Nat.mul_comm C]
  exact this
theorem EZ(h: ∀ x ∈ dS A C H W B,1≤x):(∀ x ∈ dD A C H W B,1≤x)∧1≤A∧1≤C∧1≤H∧1≤W∧1≤B:=by
  have h1:=h A (by simp[dS]);have h2:=h C (by simp[dS]);have h3:=h ((H*B:Nat):Int) (by simp[dS]);have h4:=h ((W*B:Nat):Int) (by simp[dS])
  have q1:H*B≠0:=ae
  have q2:W*B≠0:=ae
  have r1:=(Nat.mul_ne_zero_iff.1 q1);have r2:=(Nat.mul_ne_zero_iff.1 q2)
  have p:1<=C*B*B:=Nat.mul_pos (Nat.mul_pos ae ae) ae
  refine⟨λx hx=> ?_,by omega,by omega,by omega,by omega,by omega⟩
  simp only[dD,List.mem_cons,List.not_mem_nil,or_false]at hx
  rcases hx with rfl|rfl|rfl|rfl <;> omega
end
theorem awD{A C H W B:Nat}(h: ∀ x ∈ dD A C H W B,1≤x): ∀ x ∈ dS A C H W B,1≤x:=by
  have h1:=h A (by simp[dD]);have h2:=h ((C*B*B:Nat):Int) (by simp[dD]);have h3:=h (H:Int) (by simp[dD]);have h4:=h (W:Int) (by simp[dD])
  have q:C*B*B≠0:=ae
  have r1:=Nat.mul_ne_zero_iff.1 q
  have r2:=Nat.mul_ne_zero_iff.1 r1.1
  have p1:1<=H*B:=Nat.mul_pos ae ae
  have p2:1<=W*B:=Nat.mul_pos ae ae
  refine λx hx=> ?_
  simp only[dS,List.mem_cons,List.not_mem_nil,or_false]at hx
  rcases hx with rfl|rfl|rfl|rfl <;> omega
theorem mX{x:Nat}(h:x<=4096):wk .i64 (x:Int)=(x:Int):=vY (Nat.le_trans h au)
def NU(B:Nat):List Int→List Int
  |[a,b,c,d]=>[a,(((b.toNat*B+c.toNat%B)*B+d.toNat%B:Nat):Int),((c.toNat / B:Nat):Int),((d.toNat / B:Nat):Int)]
  |_=>[]
section
variable {fu A C H W B:Nat} {s:dh} {l:List aj} {x:aj} {ax:Int}
theorem ad1{i:List Int}(hB:1≤B)(hl:i.length=4)(h:jd (dS A C H W B) i=true):(NU B i).length=4∧jd (dD A C H W B) (NU B i)=true:=by
  obtain⟨a,b,c,d,rfl,h1,h2,h3,h4⟩:=aps hl h
  refine⟨rfl,?_⟩
  show jd (dD A C H W B) [(a:Int),(((b*B+c%B)*B+d%B:Nat):Int),((c / B:Nat):Int),((d / B:Nat):Int)]=true
  exact apt h1 (rD (rD h2 (Nat.mod_lt c hB)) (Nat.mod_lt d hB)) ((Nat.div_lt_iff_lt_mul hB).2 h3) ((Nat.div_lt_iff_lt_mul hB).2 h4)
theorem akJ{i:List Int}(hb:s.fBlock=(B:Int))(hd:x.fDims=dS A C H W B)(hg:Good (dS A C H W B))(hp: ∀ x ∈ dS A C H W B,1≤x)(hl:i.length=4)(h:jd (dD A C H W B) i=true)(hge:Good (dD A C H W B))(hf:200<fu):
    nU fu i ⟨64,s,l,x,ax⟩ s.fBlock (dD A C H W B) (dK x.fDims)=some (nY (dS A C H W B) (NR B C i)):=by
  obtain⟨hp',hA,hC,hH,hW,hB⟩:=EZ hp
  obtain⟨q1,q2⟩:=adY hB hC hl h
  obtain⟨a,b,c,d,rfl,h1,h2,h3,h4⟩:=aps hl h
  have g1:=hg.2.1 ((H*B:Nat):Int) (by simp[dS])
  have g2:=hg.2.1 ((W*B:Nat):Int) (by simp[dS])
  have g3:=hge.2.1 ((C*B*B:Nat):Int) (by simp[dD])
  have k1:=Nat.le_trans (Nat.le_of_lt (rD h3 (ZC h2 hC hB))) (Int.ofNat_le.1 g1.2)
  have k2:=Nat.le_trans (Nat.le_of_lt (rD h4 (Nat.mod_lt (b / C) hB))) (Int.ofNat_le.1 g2.2)
  have b0:b<=4096:=Nat.le_trans (Nat.le_of_lt h2) (Int.ofNat_le.1 g3.2)
  have b1:b / C<=4096:=Nat.le_trans (Nat.div_le_self _ _) b0
  have b2:b / C / B<=4096:=Nat.le_trans (Nat.div_le_self _ _) b1
  have k3:c*B<=4096:=Nat.le_trans (Nat.le_add_right _ _) k1
  have k4:d*B<=4096:=Nat.le_trans (Nat.le_add_right _ _) k2
  have hxe:NR B C [(a:Int),(b:Int),(c:Int),(d:Int)]=[(a:Int),((b%C:Nat):Int),((c*B+b / C / B:Nat):Int),((d*B+b / C%B:Nat):Int)]:=rfl
  have e:nU fu [(a:Int),(b:Int),(c:Int),(d:Int)] ⟨64,s,l,x,ax⟩ s.fBlock (dD A C H W B) (dK x.fDims)=(at? x.fDims 1).bind λx6=>chk (x6≠0)<|chk (s.fBlock≠0)<|(dY fu ([(a:Int),Int.tmod (b:Int) x6,wk .i64 ((wk .i64 ((c:Int)*s.fBlock))+(wk .i64 (Int.tdiv (wk .i64 (Int.tdiv (b:Int) x6)) s.fBlock))),wk .i64 ((wk .i64 ((d:Int)*s.fBlock))+(Int.tmod (wk .i64 (Int.tdiv (b:Int) x6)) s.fBlock))]) (dK x.fDims)).bind λx13=>some x13:=rfl
  rw[e,hd,hb]
  show(some (C:Int)).bind _=_
  have hpr:=hg.2.2
  rw[CZ hp ae,ai,aI ae,aI ae,vU,vS,mX b1,vS,mX b2,vU,← Int.natCast_mul,mX k3,← Int.natCast_mul,mX k4,← Int.natCast_add,mX k1,← Int.natCast_add,mX k2,← hxe]
  obtain⟨r1,r2⟩:=xA (λy hy=>by have:=hp y hy;omega) q1 q2
  rw[JR (by rw[iV];exact q1) (by rw[hxe];intro y hy;simp only[List.mem_cons,List.not_mem_nil,or_false]at hy;rcases hy with rfl|rfl|rfl|rfl <;> exact Int.natCast_nonneg _) (zV hp) (by rw[qx];omega) (by rw[iV];simp[dS]) hf,ai,qx]
theorem akH{i:List Int}(hb:s.fBlock=(B:Int))(hm:s.fMode≠7)(hd:x.fDims=dD A C H W B)(hg:Good (dS A C H W B))(hp: ∀ x ∈ dS A C H W B,1≤x)(hl:i.length=4)(h:jd (dS A C H W B) i=true)(hge:Good (dD A C H W B))(hf:200<fu):
    nU fu i ⟨63,s,l,x,ax⟩ s.fBlock (dS A C H W B) (dK x.fDims)=some (nY (dD A C H W B) (NS B C i)):=by
  obtain⟨hp',hA,hC,hH,hW,hB⟩:=EZ hp
  obtain⟨q1,q2⟩:=adZ hB hl h
  obtain⟨a,b,c,d,rfl,h1,h2,h3,h4⟩:=aps hl h
  have g1:=hg.2.1 ((H*B:Nat):Int) (by simp[dS])
  have g2:=hg.2.1 ((W*B:Nat):Int) (by simp[dS])
  have g3:=hge.2.1 ((C*B*B:Nat):Int) (by simp[dD])
  have k1:=rD (Nat.mod_lt c hB) (Nat.mod_lt d hB)
  have b3:B*B*C=C*B*B:=by rw[Nat.mul_assoc C,Nat.mul_comm C]
  have k2:=Nat.le_trans (Nat.le_trans (Nat.le_of_lt (rD k1 h2)) (Nat.le_of_eq b3)) (Int.ofNat_le.1 g3.2)
  have k5:(c%B*B+d%B)*C<=4096:=Nat.le_trans (Nat.le_add_right _ _) k2
  have k4:c%B*B+d%B<=4096:=Nat.le_trans (Nat.le_mul_of_pos_right _ hC) k5
  have k3:c%B*B<=4096:=Nat.le_trans (Nat.le_add_right _ _) k4
  have c1:c / B<=4096:=Nat.le_trans (Nat.div_le_self _ _) (Nat.le_trans (Nat.le_of_lt h3) (Int.ofNat_le.1 g1.2))
  have c2:d / B<=4096:=Nat.le_trans (Nat.div_le_self _ _) (Nat.le_trans (Nat.le_of_lt h4) (Int.ofNat_le.1 g2.2))
  have hxe:NS B C [(a:Int),(b:Int),(c:Int),(d:Int)]=[(a:Int),(((c%B*B+d%B)*C+b:Nat):Int),((c / B:Nat):Int),((d / B:Nat):Int)]:=rfl
  have e:nU fu [(a:Int),(b:Int),(c:Int),(d:Int)] ⟨63,s,l,x,ax⟩ s.fBlock (dS A C H W B) (dK x.fDims)=(at? x.fDims 1).bind λx6=>chk (x6≠0)<|chk (s.fBlock≠0)<|if s.fMode=7 then((dY fu ([(a:Int),wk .i64 ((wk .i64 ((wk .i64 ((wk .i64 ((b:Int)*s.fBlock))+(Int.tmod (c:Int) s.fBlock)))*s.fBlock))+(Int.tmod (d:Int) s.fBlock)),wk .i64 (Int.tdiv (c:Int) s.fBlock),wk .i64 (Int.tdiv (d:Int) s.fBlock)]) (dK x.fDims)).bind λx13=>some x13)else(dY fu ([(a:Int),wk .i64 ((wk .i64 ((wk .i64 ((wk .i64 ((Int.tmod (c:Int) s.fBlock)*s.fBlock))+(Int.tmod (d:Int) s.fBlock)))*(C:Int)))+(b:Int)),wk .i64 (Int.tdiv (c:Int) s.fBlock),wk .i64 (Int.tdiv (d:Int) s.fBlock)]) (dK x.fDims)).bind λx13=>some x13:=rfl
  rw[e,hd,hb]
  show(some ((C*B*B:Nat):Int)).bind _=_
  have hpr:=hge.2.2
  have p1:=hp' ((C*B*B:Nat):Int) (by simp[dD])
  rw[CZ hp' ae,ai,aI ae,aI ae,if_neg hm,vU,vU,← Int.natCast_mul,mX k3,← Int.natCast_add,mX k4,← Int.natCast_mul,mX k5,← Int.natCast_add,mX k2,vS,mX c1,vS,mX c2,← hxe]
  obtain⟨r1,r2⟩:=xA (λy hy=>by have:=hp' y hy;omega) q1 q2
  rw[JR (by rw[iV];exact q1) (by rw[hxe];intro y hy;simp only[List.mem_cons,List.not_mem_nil,or_false]at hy;rcases hy with rfl|rfl|rfl|rfl <;> exact Int.natCast_nonneg _) (zV hp') (by rw[qx];omega) (by rw[iV];simp[dD]) hf,ai,qx]
theorem akI{i:List Int}(hb:s.fBlock=(B:Int))(hm:s.fMode=7)(hd:x.fDims=dD A C H W B)(hg:Good (dS A C H W B))(hp: ∀ x ∈ dS A C H W B,1≤x)(hl:i.length=4)(h:jd (dS A C H W B) i=true)(hge:Good (dD A C H W B))(hf:200<fu):
    nU fu i ⟨63,s,l,x,ax⟩ s.fBlock (dS A C H W B) (dK x.fDims)=some (nY (dD A C H W B) (NU B i)):=by
  obtain⟨hp',hA,hC,hH,hW,hB⟩:=EZ hp
  obtain⟨q1,q2⟩:=ad1 hB hl h
  obtain⟨a,b,c,d,rfl,h1,h2,h3,h4⟩:=aps hl h
  have g1:=hg.2.1 ((H*B:Nat):Int) (by simp[dS])
  have g2:=hg.2.1 ((W*B:Nat):Int) (by simp[dS])
  have g3:=hge.2.1 ((C*B*B:Nat):Int) (by simp[dD])
  have k2:=Nat.le_trans (Nat.le_of_lt (rD (rD h2 (Nat.mod_lt c hB)) (Nat.mod_lt d hB))) (Int.ofNat_le.1 g3.2)
  have k5:(b*B+c%B)*B<=4096:=Nat.le_trans (Nat.le_add_right _ _) k2
  have k4:b*B+c%B<=4096:=Nat.le_trans (Nat.le_mul_of_pos_right _ hB) k5
  have k3:b*B<=4096:=Nat.le_trans (Nat.le_add_right _ _) k4
  have c1:c / B<=4096:=Nat.le_trans (Nat.div_le_self _ _) (Nat.le_trans (Nat.le_of_lt h3) (Int.ofNat_le.1 g1.2))
  have c2:d / B<=4096:=Nat.le_trans (Nat.div_le_self _ _) (Nat.le_trans (Nat.le_of_lt h4) (Int.ofNat_le.1 g2.2))
  have hxe:NU B [(a:Int),(b:Int),(c:Int),(d:Int)]=[(a:Int),(((b*B+c%B)*B+d%B:Nat):Int),((c / B:Nat):Int),((d / B:Nat):Int)]:=rfl
  have e:nU fu [(a:Int),(b:Int),(c:Int),(d:Int)] ⟨63,s,l,x,ax⟩ s.fBlock (dS A C H W B) (dK x.fDims)=(at? x.fDims 1).bind λx6=>chk (x6≠0)<|chk (s.fBlock≠0)<|if s.fMode=7 then((dY fu ([(a:Int),wk .i64 ((wk .i64 ((wk .i64 ((wk .i64 ((b:Int)*s.fBlock))+(Int.tmod (c:Int) s.fBlock)))*s.fBlock))+(Int.tmod (d:Int) s.fBlock)),wk .i64 (Int.tdiv (c:Int) s.fBlock),wk .i64 (Int.tdiv (d:Int) s.fBlock)]) (dK x.fDims)).bind λx13=>some x13)else(dY fu ([(a:Int),wk .i64 ((wk .i64 ((wk .i64 ((wk .i64 ((Int.tmod (c:Int) s.fBlock)*s.fBlock))+(Int.tmod (d:Int) s.fBlock)))*(C:Int)))+(b:Int)),wk .i64 (Int.tdiv (c:Int) s.fBlock),wk .i64 (Int.tdiv (d:Int) s.fBlock)]) (dK x.fDims)).bind λx13=>some x13:=rfl
  rw[e,hd,hb]
  show(some ((C*B*B:Nat):Int)).bind _=_
  have hpr:=hge.2.2
  have p1:=hp' ((C*B*B:Nat):Int) (by simp[dD])
  rw[CZ hp' ae,ai,aI ae,aI ae,if_pos hm,vU,vU,← Int.natCast_mul,mX k3,← Int.natCast_add,mX k4,← Int.natCast_mul,mX k5,← Int.natCast_add,mX k2,vS,mX c1,vS,mX c2,← hxe]
  obtain⟨r1,r2⟩:=xA (λy hy=>by have:=hp' y hy;omega) q1 q2
  rw[JR (by rw[iV];exact q1) (by rw[hxe];intro y hy;simp only[List.mem_cons,List.not_mem_nil,or_false]at hy;rcases hy with rfl|rfl|rfl|rfl <;> exact Int.natCast_nonneg _) (zV hp') (by rw[qx];omega) (by rw[iV];simp[dD]) hf,ai,qx]
theorem avM{d:List Int}(hs:Small x)(hft:Fuel fu x)(hc:dQ x=0)(hgd:Good d)(hR: ∃ A C H W B:Nat,s.fBlock=(B:Int)∧x.fDims=dS A C H W B∧d=dD A C H W B)(hf:6000<fu): ∃ y,eX fu ⟨64,s,l,x,ax⟩ d []=some y∧ku x y:=by
  obtain⟨hk,hg,hL⟩:=gQ.1 hc
  obtain⟨A,C,H,W,B,hb,hx,rfl⟩:=hR
  have h:eX fu ⟨64,s,l,x,ax⟩ (dD A C H W B) []=((jA fu x.fDims).bind λx5=>(cO fu x (dD A C H W B) (λy0=>nU fu y0 ⟨64,s,l,x,ax⟩ s.fBlock (dD A C H W B) x5)).bind λx6=>some x6).bind λx5=>some x5:=rfl
  rw[h,rJ hg ae,ai]
  obtain⟨y,h1,h2⟩:=Cb (p2:=fun y0=>nU fu y0 ⟨64,s,l,x,ax⟩ s.fBlock (dD A C H W B) (dK x.fDims)) hs hft hc hgd ae fun hpos k hk=>by
    have hp:=awD hpos
    obtain⟨hp',hA,hC,hH,hW,hB⟩:=EZ hp
    obtain⟨i1,i2, -⟩:=BD hgd hpos hk
    obtain⟨q1,q2⟩:=adY hB hC i1 i2
    rw[hx]at hg
    have:=akJ (fu:=fu) (l:=l) (ax:=ax) hb hx hg hp i1 i2 hgd ae
    rw[hx]at this ⊢
    exact⟨_,q1,q2,this⟩
  rw[h1,ai,ai]
  exact⟨y,rfl,h2⟩
theorem avL{d:List Int}(hs:Small x)(hft:Fuel fu x)(hc:dQ x=0)(hgd:Good d)(hR: ∃ A C H W B:Nat,s.fBlock=(B:Int)∧x.fDims=dD A C H W B∧d=dS A C H W B)(hf:6000<fu): ∃ y,eX fu ⟨63,s,l,x,ax⟩ d []=some y∧ku x y:=by
  obtain⟨hk,hg,hL⟩:=gQ.1 hc
  obtain⟨A,C,H,W,B,hb,hx,rfl⟩:=hR
  have h:eX fu ⟨63,s,l,x,ax⟩ (dS A C H W B) []=((jA fu x.fDims).bind λx5=>(cO fu x (dS A C H W B) (λy0=>nU fu y0 ⟨63,s,l,x,ax⟩ s.fBlock (dS A C H W B) x5)).bind λx6=>some x6).bind λx5=>some x5:=rfl
  rw[h,rJ hg ae,ai]
  obtain⟨y,h1,h2⟩:=Cb (p2:=fun y0=>nU fu y0 ⟨63,s,l,x,ax⟩ s.fBlock (dS A C H W B) (dK x.fDims)) hs hft hc hgd ae fun hp k hk=>by
    obtain⟨hp',hA,hC,hH,hW,hB⟩:=EZ hp
    obtain⟨i1,i2, -⟩:=BD hgd hp hk
    rw[hx]at hg
    by_cases hm:s.fMode=7
    · obtain⟨q1,q2⟩:=ad1 hB i1 i2
      have:=akI (fu:=fu) (l:=l) (ax:=ax) hb hm hx hgd hp i1 i2 hg ae
      rw[hx]at this ⊢
      exact⟨_,q1,q2,this⟩
    · obtain⟨q1,q2⟩:=adZ hB i1 i2
      have:=akH (fu:=fu) (l:=l) (ax:=ax) hb hm hx hgd hp i1 i2 hg ae
      rw[hx]at this ⊢
      exact⟨_,q1,q2,this⟩
  rw[h1,ai,ai]
  exact⟨y,rfl,h2⟩
end
section
variable {fu:Nat} {s:dh} {L:List aj} {x:aj} {a:Int} {d:List Int}
theorem avG{n:List Int}(hs:Small x)(hft:Fuel fu x)(hc:dQ x=0)(hgd:Good d)(hR:d.length=x.fDims.length∧n.length=x.fDims.length∧ ∀ a,a<d.length→0≤gI n a∧gI d a=gI n a*gI x.fDims a)(hf:6000<fu): ∃ y,eX fu ⟨54,s,L,x,a⟩ d []=some y∧ku x y:=by
  obtain⟨r1,r2,r3⟩:=hR
  obtain⟨hk,hg,hL⟩:=gQ.1 hc
  obtain⟨y,h1,h2⟩:=adC (op:=54) (s:=s) (L:=L) (a:=a) hs hft hc hgd ⟨by omega,fun hp z hz=>by
    obtain⟨b,hb,rfl⟩:=List.getElem_of_mem hz
    have e1:=(r3 b ae).2
    have e2:=hp _ (List.getElem_mem (show b<d.length by omega))
    have e3:=(hg.2.1 _ (List.getElem_mem hb)).1
    rw[← cu]at e2 e3 ⊢
    by_cases h0:gI x.fDims b=0
    · rw[h0,Int.mul_zero]at e1;omega
    · omega⟩ hf
  have e:eX fu ⟨54,s,L,x,a⟩ d []=(vJ fu ⟨54,s,L,x,a⟩ d).bind λx=>some x:=rfl
  rw[e,h1]
  exact⟨y,rfl,h2⟩
theorem avH(hs:Small x)(hft:Fuel fu x)(hc:dQ x=0)(hgd:Good d)(hR:DD x.fDims d)(hf:6000<fu): ∃ y,eX fu ⟨55,s,L,x,a⟩ d []=some y∧ku x y:=by
  obtain⟨y,h1,h2⟩:=adC (op:=55) (s:=s) (L:=L) (a:=a) hs hft hc hgd hR hf
  have e:eX fu ⟨55,s,L,x,a⟩ d []=(vJ fu ⟨55,s,L,x,a⟩ d).bind λx=>some x:=rfl
  rw[e,h1]
  exact⟨y,rfl,h2⟩
end
end Go.Av
namespace Go.Av
theorem aaJ{fu:Nat}{t:aj}{i l0:List Int}{a b c e v:Int}{nx1:List Int→List Int→Option (List Int)}(hv:wk .i64 (a+wk .i64 (wk .i64 (b - c)*e))=v)(hl:i.length=t.fDims.length)(hd:t.fDims.length≤8)(hi: ∀ j,j<t.fDims.length→0≤gI i j∧gI i j≤4096):
    ∀ (m q:Nat),m≤t.fDims.length→m<q→aT (fun next s=>iO.L2 fu nx1 t l0 a b c e (fun a b=>next (a,b)) s.1 s.2) q (i.take m++List.replicate (t.fDims.length - m) 0,(m:Int) - 1)=
      match rq t.fDims i m with|some ys=>nx1 (l0++[v]) ys|none=>some (l0++[v])
  | 0,q,hm,hq=>by
    obtain⟨q,rfl⟩: ∃ q',q=q'+1:=⟨q - 1,by omega⟩
    rw[dC]
    show iO.L2 fu nx1 t l0 a b c e _ _ _=_
    rw[iO.L2,hv]
    dsimp only
    rw[if_neg ae]
    rfl
  | m +1,q,hm,hq=>by
    obtain⟨q,rfl⟩: ∃ q',q=q'+1:=⟨q - 1,by omega⟩
    obtain⟨i0,i1⟩:=hi m ae
    have htl:(i.take m).length=m:=by simp;omega
    rw[dC]
    show iO.L2 fu nx1 t l0 a b c e _ _ _=_
    rw[iO.L2,hv]
    dsimp only
    rw[show((m+1:Nat):Int) - 1=(m:Int)by omega,if_pos ae,adz ae,List.append_assoc]
    show(at? (i.take m++gI i m::List.replicate (t.fDims.length - (m+1)) 0) (m:Int)).bind _=_
    have hlen:(i.take m++gI i m::List.replicate (t.fDims.length - (m+1)) 0).length=t.fDims.length:=by simp;omega
    rw[KT htl,ai,aI (by simp;omega),Int.toNat_natCast,bi (x:=gI i m+1) ae ae]
    show(at? ((i.take m++gI i m::List.replicate (t.fDims.length - (m+1)) 0).set m (gI i m+1)) (m:Int)).bind _=_
    rw[set_mid htl,KT htl,ai,at?_get ae,ai]
    conv=>rhs;rw[rq]
    rw[← cu (l:=t.fDims) ae]
    by_cases hc:gI i m+1<gI t.fDims m
    · rw[if_pos hc,if_pos hc]
      show nx1 (l0++[v]) ((i.take m++gI i m::List.replicate (t.fDims.length - (m+1)) 0).set m (gI i m+1))=_
      rw[set_mid htl]
    · rw[if_neg hc,if_neg hc]
      show chk (0<=(m:Int)/\(m:Int)<(((i.take m++gI i m::List.replicate (t.fDims.length - (m+1)) 0).set m (gI i m+1)).length:Int)) (aT _ q (((i.take m++gI i m::List.replicate (t.fDims.length - (m+1)) 0).set m (gI i m+1)).set m 0,wk .i64 ((m:Int) - 1)))=_
      rw[aI (by rw[List.length_set,hlen];omega),set_mid htl,set_mid htl,bi ae ae]
      have:=aaJ (nx1:=nx1) (t:=t) (fu:=fu) (l0:=l0) (v:=v) hv hl hd hi m q ae ae
      rw[← this]
      congr 2
      rw[show t.fDims.length - m=(t.fDims.length - (m+1))+1 by omega,List.replicate_succ]
theorem afd{fu:Nat}{x y:aj}{op:Int}{s:dh}{L:List aj}{nm:List Int}{k N:Nat}{f:Nat→Int}(hy:at? L (1:Int)=some y)(hg:Good y.fDims)(hN:aO y.fDims=(N:Int))(hf:5000<fu)
    (hst:jA fu x.fDims=some (dK x.fDims))
    (hp: ∀ j:Nat,j<N-> ∃ a b c e,dY fu (bF y.fDims (j:Int)) (dK x.fDims)=some a/\at? nm (j:Int)=some b/\at? (bF y.fDims (j:Int)) (k:Int)=some c/\at? (dK x.fDims) (k:Int)=some e/\wk .i64 (a+wk .i64 (wk .i64 (b - c)*e))=f j):
    iO fu ⟨op,s,L,x,(k:Int)⟩ nm=some ((List.range N).map f):=by
  have h8:=hg.1
  have h4:=hg.2.2
  unfold iO
  dsimp only
  rw[hst,ai,hy,ai,Gg (by unfold Short;omega) ae,ai]
  by_cases hz:(y.fDims.any λz=>decide ((0:Int)=z))=true
  · have hz':(0:Int) ∈ y.fDims:=by
      obtain⟨z,hx,hx2⟩:=List.any_eq_true.1 hz
      simp at hx2;subst hx2;exact hx
    have:N=0:=by have:=vN hz';omega
    subst this
    rw[if_pos hz];rfl
  · rw [if_neg hz]
    have hpos: ∀ z ∈ y.fDims,1≤z:=fun z hx=>by
      have:=(hg.2.1 z hx).1
      simp only[List.any_eq_true,decide_eq_true_eq,not_exists,not_and]at hz
      have:=hz z hx;omega
    have h1:=rH hpos
    rw[aI ae,Int.toNat_natCast]
    unfold iO.W1
    have hz0:(([]:List Int),List.replicate y.fDims.length (0:Int))=((λj:Nat=>((List.range j).map f,bF y.fDims (j:Int))) 0):=by simp[Le]
    rw[hz0]
    have step: ∀ (j:Nat),j<N→ ∀ (next:List Int×List Int→Option (List Int)),iO.L1 fu ⟨op,s,L,x,(k:Int)⟩ nm (dK x.fDims) y (fun a b=>next (a,b)) ((List.range j).map f) (bF y.fDims (j:Int))=if j+1<N then next ((List.range (j+1)).map f,bF y.fDims ((j+1:Nat):Int))else some ((List.range (j+1)).map f):=fun j hj next=>by
      have hlk:((List.range j).map f).length=j:=by simp
      obtain⟨a,b,c,e,h1',h2',h3',h4',h5'⟩:=hp j hj
      unfold iO.L1 iO.W2
      dsimp only
      rw[h1',ai,hlk,h2',ai,h3',ai,h4',ai,aI ae,bi ae ae]
      have hil:(bF y.fDims (j:Int)).length=y.fDims.length:=qC _ _
      have:=aaJ (fu:=fu) (t:=y) (l0:=(List.range j).map f) (v:=f j) (nx1:=λa b=>next (a,b)) h5' hil h8 (aas hg hpos ae ae) y.fDims.length fu (Nat.le_refl _) ae
      rw[Nat.sub_self,List.replicate_zero,List.append_nil,List.take_of_length_le ae,SS hpos ae ae]at this
      rw[this]
      have e:(List.range j).map f++[f j]=(List.range (j+1)).map f:=by rw[List.range_succ,List.map_append];rfl
      by_cases hc:j+1<N
      · rw[if_pos hc,if_pos ae,e]
        show next (_,_)=_
        rw[show((j:Int)+1)=((j+1:Nat):Int)by omega]
      · rw[if_neg hc,if_neg ae,e]
    refine D5 (N - 1) (λj:Nat=>((List.range j).map f,bF y.fDims (j:Int))) _ ?_ ?_ ae
    · intro j hj next hn
      show iO.L1 fu _ nm _ y (λa b=>next (a,b)) ((List.range j).map f) (bF y.fDims (j:Int))=_
      rw[step j ae,if_pos ae]
      exact hn
    · intro next
      show iO.L1 fu _ nm _ y (λa b=>next (a,b)) ((List.range (N - 1)).map f) (bF y.fDims ((N - 1:Nat):Int))=_
      rw[step (N - 1) ae,if_neg ae,show N - 1+1=N by omega]
theorem al0{fu:Nat}{xs ys:List Int}(hl:xs.length=ys.length)(hx: ∀ x ∈ xs,0≤x)(hy: ∀ y ∈ ys,0≤y)(hb:gX xs ys≤1000000000)(hn:ys.length≤100)(hf:200<fu):dY fu xs ys=some (gX xs ys):=by
  unfold dY dY.W1
  refine(qw (λ(s:Int×Int)=>some (s.1+gX (xs.drop s.2.toNat) (ys.drop s.2.toNat))) (λs=>0<=s.2/\s.2<=ys.length/\0<=s.1/\s.1+gX (xs.drop s.2.toNat) (ys.drop s.2.toNat)<=1000000000) (λs=>ys.length - s.2.toNat) ?_ fu _ (by simp;omega) (by simp;omega)).trans (by simp)
  rintro⟨a,i⟩ ⟨h0,h1,h2,h3⟩ next hn2
  simp only at h0 h1 h2 h3 hn2 ⊢
  obtain⟨k,rfl⟩:=Int.eq_ofNat_of_zero_le h0
  unfold dY.L1
  simp only[Int.toNat_natCast]at h3 ⊢
  by_cases hk:k<ys.length
  · have hk2:k<xs.length:=ae
    rw[List.drop_eq_getElem_cons hk,List.drop_eq_getElem_cons hk2]at h3 ⊢
    simp only[gX]at h3 ⊢
    have p1:0<=xs[k]*ys[k]:=Int.mul_nonneg (hx _ (List.getElem_mem hk2)) (hy _ (List.getElem_mem hk))
    have p2:0<=gX (xs.drop (k+1)) (ys.drop (k+1)):=Q9 (λz hz=>hx z (List.mem_of_mem_drop hz)) (λz hz=>hy z (List.mem_of_mem_drop hz))
    rw[if_pos ae,at?_get hk,ai,at?_get hk2,ai,bi (x:=xs[k]*ys[k]) ae ae,bi (x:=a+xs[k]*ys[k]) ae ae,dL ae]
    rw[hn2 (_,((k+1:Nat):Int)) ⟨by simp only[];omega,by simp only[];omega,by simp only[];omega,by simp only[Int.toNat_natCast];omega⟩ (by simp;omega)]
    simp only[Int.toNat_natCast]
    congr 1
    omega
  · rw[if_neg ae,List.drop_of_length_le ae,List.drop_of_length_le ae]
    simp[gX]
theorem ZH: ∀ {xs:List Int},gX xs []=0
  |[]=>rfl
  |_::_=>rfl
theorem ZI: ∀ {xs ys:List Int} {k:Nat} {b:Int},k<xs.length→gX (xs.set k b) ys=gX xs ys+(b - gI xs k)*gI ys k
  |[],_,_,_,h=>by simp at h
  | x::xs,[],k,b,_=>by
    rw[ZH,ZH];simp[gI]
  | x::xs,y::ys,0,b,_=>by
    simp only[List.set_cons_zero,gX]
    have e1:gI (x::xs) 0=x:=by simp[gI]
    have e2:gI (y::ys) 0=y:=by simp[gI]
    rw[e1,e2,Int.sub_mul]
    omega
  | x::xs,y::ys,k+1,b,h=>by
    have ih:=ZI (xs:=xs) (ys:=ys) (k:=k) (b:=b) (by simpa using h)
    have e1:gI (x::xs) (k+1)=gI xs k:=by simp[gI]
    have e2:gI (y::ys) (k+1)=gI ys k:=by simp[gI]
    simp only[List.set_cons_succ,gX,e1,e2]
    rw[ih]
    omega
theorem adm: ∀ {l:List Int},(bg l).length=l.length
  |[]=>rfl
  |_::l=>by simp[bg,adm (l:=l)]
theorem adl: ∀ {l:List Int},(∀ x ∈ l,1≤x)→ ∀ y ∈ bg l,y≤aO l
  |[],_,y,hy=>by simp[bg]at hy
  | d::l,h,y,hy=>by
    have h': ∀ x ∈ l,1<=x:=λx hx=>h x (by simp[hx])
    have h1:=rH h'
    have h2:1*aO l<=d*aO l:=Int.mul_le_mul_of_nonneg_right (h d (by simp)) ae
    simp only[bg,List.mem_cons]at hy
    simp only[aO]
    rcases hy with rfl|hy
    · omega
    · have:=adl h' y hy;omega
theorem apa{l:List Int}{k m:Nat}{b:Int}(hm:m<l.length):gI (l.set k b) m=if m=k then b else gI l m:=by
  rw[cu (by simpa using hm),List.getElem_set,cu hm]
  by_cases h:k=m
  · rw[if_pos h,if_pos h.symm]
  · rw[if_neg h,if_neg (λe=>h e.symm)]
def xC(x y:List Int)(k:Nat)(j:Nat)(b:Int):Int:=nY x ((bF y (j:Int)).set k b)
theorem awC{fu:Nat}{x y:List Int}{k j:Nat}{b:Int}(hg:Good x)(hgy:Good y)(hF:Fits x y k)(hkl:k<x.length)(hj:(j:Int)<aO y)(hb0:0≤b)(hb1:b<gI x k)(hf:200<fu):
    (0<=xC x y k j b/\xC x y k j b<aO x)/\ ∃ a c e,dY fu (bF y (j:Int)) (dK x)=some a/\at? (bF y (j:Int)) (k:Int)=some c/\at? (dK x) (k:Int)=some e/\wk .i64 (a+wk .i64 (wk .i64 (b - c)*e))=xC x y k j b:=by
  have hpy: ∀ z ∈ y,1≤z:=fun z hz=>by
    rcases Int.lt_or_le 0 z with h|h
    · omega
    · have h0:=(hgy.2.1 z hz).1
      have:z=0:=ae
      subst this
      have:=vN hz
      omega
  have hil:=qC y (j:Int)
  have hok:=BR hil (zA hpy ae hj)
  have hpx: ∀ z ∈ x,1≤z:=fun z hz=>by
    obtain⟨m,hm,rfl⟩:=List.getElem_of_mem hz
    rw[← cu hm]
    by_cases e:m=k
    · subst e;omega
    · have h1:=hF.2 m hm e
      have h2:=hpy _ (List.getElem_mem (show m<y.length by rw[← hF.1];exact hm))
      rw[← cu (by rw[← hF.1];exact hm)]at h2
      omega
  have hx4:=hg.2.2
  have hix:(bF y (j:Int)).length=x.length:=hil.trans hF.1.symm
  have hsl:(bg x).length=x.length:=adm
  have hsx:dK x=bg x:=CZ hpx ae
  have hxn: ∀ z ∈ x,0<=z:=λz hz=>by have:=hpx z hz;omega
  have hokx:jd x ((bF y (j:Int)).set k b)=true:=by
    refine zB (by rw[List.length_set];exact hix) λm hm=> ?_
    rw[apa ae]
    by_cases e:m=k
    · rw[if_pos e,e];exact⟨hb0,hb1⟩
    · rw[if_neg e]
      have h1:=hok m (by rw[← hF.1];exact hm)
      have h2:=hF.2 m hm e
      exact⟨h1.1,by omega⟩
  have hlt:=xA hxn (by rw[List.length_set];exact hix) hokx
  refine⟨hlt,?_⟩
  have hds:xC x y k j b=gX (bF y (j:Int)) (bg x)+(b - gI (bF y (j:Int)) k)*gI (bg x) k:=by
    unfold xC
    rw[← qx,ZI ae]
  have hc:=hok k (by rw[← hF.1];exact hkl)
  have hy4:=(hgy.2.1 _ (List.getElem_mem (show k<y.length by rw[← hF.1];exact hkl))).2
  rw[← cu (by rw[← hF.1];exact hkl)]at hy4
  have hx4k:=(hg.2.1 _ (List.getElem_mem hkl)).2
  rw[← cu hkl]at hx4k
  have he0:0<=gI (bg x) k:=by rw[cu ae];exact zV hpx _ (List.getElem_mem _)
  have he1:gI (bg x) k≤4096:=by
    rw[cu ae]
    have:=adl hpx _ (List.getElem_mem (show k<(bg x).length by omega));omega
  have hm1:(gI (bF y (j:Int)) k - b)*gI (bg x) k≤4096*4096:=by
    rcases Int.lt_or_le (gI (bF y (j:Int)) k - b) 0 with h|h
    · have:=Int.mul_nonneg (show 0≤ -(gI (bF y (j:Int)) k - b)by omega) he0
      rw[Int.neg_mul]at this;omega
    · exact Int.mul_le_mul ae he1 he0 ae
  have hm2:(b - gI (bF y (j:Int)) k)*gI (bg x) k≤4096*4096:=by
    rcases Int.lt_or_le (b - gI (bF y (j:Int)) k) 0 with h|h
    · have:=Int.mul_nonneg (show 0≤ -(b - gI (bF y (j:Int)) k)by omega) he0
      rw[Int.neg_mul]at this;omega
    · exact Int.mul_le_mul ae he1 he0 ae
  have hneg:(gI (bF y (j:Int)) k - b)*gI (bg x) k= -((b - gI (bF y (j:Int)) k)*gI (bg x) k):=by
    rw[← Int.neg_mul];congr 1;omega
  have hlt':xC x y k j b<aO x:=hlt.2
  have hlt0:0<=xC x y k j b:=hlt.1
  refine⟨gX (bF y (j:Int)) (bg x),gI (bF y (j:Int)) k,gI (bg x) k,?_,?_,?_,?_⟩
  · rw[hsx]
    exact al0 ae (aar hpy ae hj) (zV hpx) ae (by have:=hg.1;omega) hf
  · rw[at?_get ae,← cu ae]
  · rw[hsx,at?_get ae,← cu ae]
  · rw[bi (x:=b - gI (bF y (j:Int)) k) ae ae,bi (x:=(b - gI (bF y (j:Int)) k)*gI (bg x) k) ae ae,bi ae ae,← hds]
def wv(n e:Int):Int:=if e<0 then wk .i64 (e+n)else e
theorem aAR{fu:Nat}{e n:Int}:(0≤wv n e∧wv n e<n∧oP fu e n=some (wv n e))∨(¬ (0≤wv n e∧wv n e<n)∧oP fu e n=some (-1)):=by
  have h:oP fu e n=oP.k1 fu n (wv n e):=by
    unfold oP jn wv
    by_cases h:e<0
    · rw[if_pos h,if_pos h]
    · rw[if_neg h,if_neg h]
  rw[h]
  unfold oP.k1
  by_cases h1:wv n e<0
  · rw[if_pos h1];exact .inr ⟨by omega,rfl⟩
  · rw[if_neg h1]
    by_cases h2:n<=wv n e
    · rw[if_pos h2];exact .inr ⟨by omega,rfl⟩
    · rw[if_neg h2];exact .inl ⟨by omega,by omega,rfl⟩
theorem TN{fu:Nat}{op:Int}{s:dh}{L:List aj}{x y:aj}{k:Nat}{n:Int}(hy:at? L (1:Int)=some y)(hd:at? x.fDims (k:Int)=some n)(hl:y.fI.length≤1000000)(hf:y.fI.length<fu):
    (jX fu ⟨op,s,L,x,(k:Int)⟩=some (y.fI.map (wv n),true)/\ ∀ e ∈ y.fI,0<=wv n e/\wv n e<n)∨((¬ ∀ e ∈ y.fI,0<=wv n e/\wv n e<n)/\jX fu ⟨op,s,L,x,(k:Int)⟩=some ([],false)):=by
  unfold jX
  dsimp only
  rw[hy,ai]
  unfold jX.W1
  have hz:(([]:List Int),(0:Int))=(λj:Nat=>((y.fI.take j).map (wv n),(j:Int))) 0:=rfl
  rw[hz]
  refine Hz (body:=λnext s_1=>_) y.fI.length (λj:Nat=>((y.fI.take j).map (wv n),(j:Int))) (λj=> ∀ e ∈ y.fI.take j,0<=wv n e/\wv n e<n) (λr=>(r=some (y.fI.map (wv n),true)/\ ∀ e ∈ y.fI,0<=wv n e/\wv n e<n)∨((¬ ∀ e ∈ y.fI,0<=wv n e/\wv n e<n)/\r=some ([],false))) ?_ ?_ (λe he=>by simp at he) hf
  · intro j hj hp next hn
    show(jX.L1 fu ⟨op,s,L,x,(k:Int)⟩ y (λa b=>next (a,b)) ((y.fI.take j).map (wv n)) (j:Int)=_/\_)∨_
    unfold jX.L1
    dsimp only
    rw[if_pos ae,at?_get hj,ai,hd,ai]
    have hlen:((y.fI.take j).map (wv n)).length=j:=by simp;omega
    rcases aAR (fu:=fu) (e:=y.fI[j]) (n:=n)with⟨h1,h2,h3⟩|⟨hno,h3⟩
    · rw[h3,ai,if_neg ae,aI (by rw[hlen];omega),dL ae]
      have e1:(y.fI.take j).map (wv n)++[wv n y.fI[j]]=(y.fI.take (j+1)).map (wv n):=by
        rw[List.take_add_one,List.getElem?_eq_getElem hj,List.map_append];rfl
      rw[e1]
      refine hn λe he=> ?_
      rw[List.take_add_one,List.getElem?_eq_getElem hj]at he
      rcases List.mem_append.1 he with he|he
      · exact hp e he
      · have:e=y.fI[j]:=by simpa using he
        rw[this];exact⟨h1,h2⟩
    · rw[h3,ai,if_pos au]
      exact .inr ⟨λhall=>hno (hall _ (List.getElem_mem hj)),rfl⟩
  · intro hp next
    show(jX.L1 fu ⟨op,s,L,x,(k:Int)⟩ y (λa b=>next (a,b)) ((y.fI.take y.fI.length).map (wv n)) ((y.fI.length:Nat):Int)=_/\_)∨_
    unfold jX.L1
    rw[if_neg ae]
    rw[List.take_length]at hp ⊢
    exact .inl ⟨rfl,hp⟩
end Go.Av
