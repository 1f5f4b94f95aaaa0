/- Layer 4, shapes: what the plain functions come to. Strides, indices, offsets. Copies. Layer 5: sameness, whether a tensor may be, copies whose no numbers are one. Lists of numbers alike. Sameness of two tensors. Any tensors: as constant values; whether each may be. New tensors, elements picked. Orders of axes: sums and products in another order, places there and back. All indices of dims in row order; elements picked by a place of each. Sums of indices by strides; axes; copies. Axes. Picks of elements, or of nothing, and those that lead back. What infer tells of the operators that move elements, ahead of the shapes. Lists that say shapes; what is wrong ahead of the shapes; numbers and axes of what is asked. The shapes that infer tells of operators that move elements: those that ask little. Parts along an axis, and their places. The shapes that infer tells of Concat, Split, Gather, GatherElements and ScatterElements. Conditions: those that each names. -/
import Derived.Test.YtiagecndhhinfaaGreatQS
import Derived.Test.YtiagecndhhinfaaGreatPl
set_option linter.unusedVariables false
namespace Go.Av
def vg(p:Int→Bool):Nat→List Int→Int
  |_,[]=> -1
  |i,x::l=>if p x=true then i else vg p (i+1) l
theorem Si(p:Int→Bool): ∀ (l:List Int) (i:Nat),decide (0≤vg p i l)=l.any p
  |[],i=>rfl
  | x::l,i=>by
    simp only[vg,List.any_cons]
    by_cases h:p x=true
    · simp[h]
    · simp[h,← Si p l (i+1)]
def Short(l:List Int):Prop:=l.length<=140737488355328
theorem dL{k:Nat}(h:k<=140737488355328):wk .i64 ((k:Int)+1)=((k+1:Nat):Int):=by rw[bi ae ae];omega
theorem aed{fu:Nat}{l:List Int}{p:Int→Option Bool}{q:Int→Bool}(hp: ∀ x,p x=some (q x))(hl:Short l)(hf:l.length<fu):lL fu l p=some (vg q 0 l):=by
  unfold lL lL.W1
  refine qw (λ(i:Int)=>some (vg q i.toNat (l.drop i.toNat))) (λi=>0<=i/\i<=l.length) (λi=>l.length - i.toNat) ?_ fu 0 ae (by simp;omega)
  rintro i ⟨h0,h1⟩ next hn
  obtain⟨k,rfl⟩:=Int.eq_ofNat_of_zero_le h0
  unfold lL.L1
  simp only[Int.toNat_natCast]
  by_cases hk:k<l.length
  · rw[if_pos ae,at?_get hk,ai,hp,ai,List.drop_eq_getElem_cons hk]
    simp only[vg]
    by_cases hq:q l[k]=true
    · rw[if_pos hq,if_pos hq]
    · rw[if_neg hq,if_neg hq,dL (by unfold Short at hl;omega),hn _ ae (by simp;omega)]
      simp
  · rw[if_neg ae,List.drop_of_length_le ae];rfl
theorem Gf{fu:Nat}{l:List Int}{p:Int→Option Bool}{q:Int→Bool}(hp: ∀ x,p x=some (q x))(hl:Short l)(hf:l.length<fu):kY fu l p=some (l.any q):=by
  unfold kY
  rw[aed hp hl hf,ai,Si]
theorem aee{fu:Nat}{l:List Int}{x:Int}(hl:Short l)(hf:l.length<fu):slices_Index_int fu l x=some (vg (fun y=>decide (x=y)) 0 l):=by
  unfold slices_Index_int slices_Index_int.W1
  refine qw (λ(i:Int)=>some (vg (λy=>decide (x=y)) i.toNat (l.drop i.toNat))) (λi=>0<=i/\i<=l.length) (λi=>l.length - i.toNat) ?_ fu 0 ae (by simp;omega)
  rintro i ⟨h0,h1⟩ next hn
  obtain⟨k,rfl⟩:=Int.eq_ofNat_of_zero_le h0
  unfold slices_Index_int.L1
  simp only[Int.toNat_natCast]
  by_cases hk:k<l.length
  · rw[if_pos ae,at?_get hk,ai,List.drop_eq_getElem_cons hk]
    simp only[vg]
    by_cases hq:x=l[k]
    · rw[if_pos hq,if_pos (by simpa using hq)]
    · rw[if_neg hq,if_neg (by simpa using hq),dL (by unfold Short at hl;omega),hn _ ae (by simp;omega)]
      simp
  · rw[if_neg ae,List.drop_of_length_le ae];rfl
theorem Gg{fu:Nat}{l:List Int}{x:Int}(hl:Short l)(hf:l.length<fu):slices_Contains_int fu l x=some (l.any fun y=>decide (x=y)):=by
  unfold slices_Contains_int
  rw[aee hl hf,ai,Si]
def aO:List Int→Int
  |[]=>1
  |x::l=>x*aO l
def uM(l:List Int):Prop:= ∀ x ∈ l,0<=x/\x<=4096
def Good(l:List Int):Prop:=l.length<=8/\uM l/\aO l<=4096
instance (l:List Int):Decidable (uM l):=by unfold uM;infer_instance
instance (l:List Int):Decidable (Good l):=by unfold Good;infer_instance
def mJ(l:List Int):Int:=if l.any (λx=>decide (x<0))=true then 1 else 4
def jP(l:List Int):Int×Int:=if Good l then(aO l,0)else(0,mJ l)
theorem ui(l:List Int):mJ l≠0:=by unfold mJ;split <;> decide
theorem uB: ∀ {l:List Int},uM l→0≤aO l
  |[],_=>by decide
  |x::l,h=>Int.mul_nonneg (h x (by simp)).1 (uB λy hy=>h y (by simp[hy]))
theorem rH: ∀ {l:List Int},(∀ x ∈ l,1≤x)→1≤aO l
  |[],_=>by decide
  | x::l,h=>by
    have h1:=h x (by simp)
    have h2:=rH (l:=l) λy hy=>h y (by simp[hy])
    have:=Int.mul_le_mul h1 h2 au ae
    simpa[aO]using this
theorem vN: ∀ {l:List Int},0 ∈ l→aO l=0
  | x::l,h=>by
    rcases List.mem_cons.1 h with rfl|h
    · simp[aO]
    · simp[aO,vN h]
theorem ZF{m d:Int}(hm:1≤m)(hd:0≤d):(Int.tdiv 4096 m<d) ↔ 4096<m*d:=by
  rw[Int.tdiv_eq_ediv_of_nonneg au]
  constructor
  · intro h
    have:=Int.lt_mul_of_ediv_lt (by omega:0<m) h
    rwa[Int.mul_comm]at this
  · intro h
    exact Int.ediv_lt_of_lt_mul ae (by rwa[Int.mul_comm])
theorem aek{fu:Nat}{l:List Int}(hp: ∀ x ∈ l,1≤x∧x≤4096)(hl:l.length≤8)(hf:l.length<fu):eF.W1 fu l 1 0=some (if aO l≤4096 then(aO l,0)else(0,4)):=by
  unfold eF.W1
  refine(qw (λ(s:Int×Int)=>some (if s.1*aO (l.drop s.2.toNat)<=4096 then(s.1*aO (l.drop s.2.toNat),0)else(0,4))) (λs=>0<=s.2/\s.2<=l.length/\1<=s.1/\s.1<=4096) (λs=>l.length - s.2.toNat) ?_ fu (1,0) (by simp) (by simp;omega)).trans (by simp)
  rintro⟨m,i⟩ ⟨h0,h1,h2,h3⟩ next hn
  simp only at h0 h1 h2 h3 hn ⊢
  obtain⟨k,rfl⟩:=Int.eq_ofNat_of_zero_le h0
  unfold eF.L1
  simp only[Int.toNat_natCast]
  by_cases hk:k<l.length
  · obtain⟨q1,q2⟩:=hp _ (List.getElem_mem hk)
    have t0:0≤Int.tdiv 4096 m∧Int.tdiv 4096 m≤4096:=by
      rw[Int.tdiv_eq_ediv_of_nonneg au]
      exact⟨Int.ediv_nonneg au ae,Int.ediv_le_self _ au⟩
    rw[if_pos ae,at?_get hk,ai,aI ae,bi ae ae,List.drop_eq_getElem_cons hk]
    have hpos:1<=aO (l.drop (k+1)):=rH λx hx=>(hp x (List.mem_of_mem_drop hx)).1
    have hge:1<=m*l[k]:=by have:=Int.mul_le_mul h2 q1 au ae;simpa using this
    simp only[aO,← Int.mul_assoc]
    by_cases hd:Int.tdiv 4096 m<l[k]
    · rw[if_pos hd]
      rw[ZF h2 ae]at hd
      have:m*l[k]*1<=m*l[k]*aO (l.drop (k+1)):=Int.mul_le_mul_of_nonneg_left hpos ae
      rw[if_neg ae]
    · rw[if_neg hd]
      rw[ZF h2 ae]at hd
      rw[bi ae ae,dL ae,hn (m*l[k],((k+1:Nat):Int)) ⟨by simp only[];omega,by simp only[];omega,hge,by simp only[];omega⟩ (by simp;omega)]
      simp
  · rw[if_neg ae,List.drop_of_length_le ae]
    simp only[aO,Int.mul_one]
    rw[if_pos h3]
theorem uN{fu:Nat}{l:List Int}(hl:Short l)(hf:l.length<fu):eF fu l=some (jP l):=by
  unfold eF;try unfold jn
  rw[Gf (p:=λy0=>zO fu y0) (q:=λx=>decide (x<0)) (λx=>rfl) hl hf,ai]
  by_cases h1:l.any (λx=>decide (x<0))=true
  · rw[if_pos h1]
    have hg: ¬ Good l:=fun hg=>by
      obtain⟨x,hx,hx2⟩:=List.any_eq_true.1 h1
      have:=(hg.2.1 x hx).1
      simp at hx2;omega
    simp only[jP,if_neg hg,mJ,if_pos h1]
  rw[if_neg h1]
  have he:mJ l=4:=by simp only[mJ,if_neg h1]
  by_cases h2:8<(l.length:Int)
  · rw[if_pos h2]
    have hg: ¬ Good l:=λhg=>by have:=hg.1;omega
    simp only[jP,if_neg hg,he]
  rw[if_neg h2,Gf (p:=λy0=>zQ fu y0) (q:=λx=>decide (4096<x)) (λx=>rfl) hl hf,ai]
  by_cases h3:l.any (λx=>decide (4096<x))=true
  · rw[if_pos h3]
    have hg: ¬ Good l:=fun hg=>by
      obtain⟨x,hx,hx2⟩:=List.any_eq_true.1 h3
      have:=(hg.2.1 x hx).2
      simp at hx2;omega
    simp only[jP,if_neg hg,he]
  rw[if_neg h3]
  have hr:uM l:=fun x hx=>by
    simp only[List.any_eq_true,decide_eq_true_eq,not_exists,not_and]at h1 h3
    have:=h1 x hx;have:=h3 x hx;omega
  unfold eF.k1
  rw[Gg hl hf,ai]
  by_cases h4:(l.any λy=>decide ((0:Int)=y))=true
  · rw[if_pos h4]
    have hz:(0:Int) ∈ l:=by
      obtain⟨x,hx,hx2⟩:=List.any_eq_true.1 h4
      simp at hx2;subst hx2;exact hx
    have hg:Good l:=⟨by omega,hr,by rw[vN hz];decide⟩
    simp only[jP,if_pos hg,vN hz]
  rw[if_neg h4]
  have hp: ∀ x ∈ l,1≤x∧x≤4096:=fun x hx=>by
    have:=hr x hx
    simp only[List.any_eq_true,decide_eq_true_eq,not_exists,not_and]at h4
    have:=h4 x hx;omega
  rw[aek hp ae hf]
  by_cases h5:aO l<=4096
  · have hg:Good l:=⟨by omega,hr,h5⟩
    simp only[jP,if_pos hg,if_pos h5]
  · have hg: ¬ Good l:=fun hg=>h5 hg.2.2
    simp only[jP,if_neg hg,if_neg h5,he]
end Go.Av
namespace Go.Av
def dK:List Int→List Int
  |[]=>[]
  |_::l=>wk .i64 (aO l)::dK l
theorem qI: ∀ l,(dK l).length=l.length
  |[]=>rfl
  |_::l=>by simp[dK,qI l]
theorem axw(i:Nat)(x:Int)(s:List Int):(List.replicate (i+1) 0++s).set i x=List.replicate i 0++x::s:=by
  rw[List.replicate_succ',List.append_assoc,List.set_append_right _ _ (by simp)]
  simp
theorem azw{fu:Nat}{l:List Int}(hl:l.length*8≤140737488355328)(hf:l.length<fu):qH fu l=some (dK l):=by
  unfold qH qH.W1
  rw[aI ae]
  have hw:wk .i64 ((l.length:Int) - 1)=((l.length:Int) - 1):=bi ae ae
  rw[hw,Int.toNat_natCast]
  refine(qw (λ_=>some (dK l)) (λ(s:List Int×Int×Int)=> ∃ k:Nat,k<=l.length/\s=(List.replicate k 0++dK (l.drop k),wk .i64 (aO (l.drop k)),(k:Int) - 1)) (λs=>(s.2.2+1).toNat) ?_ fu _ ⟨l.length,Nat.le_refl _,by simp[dK,aO];decide⟩ (by simp;omega))
  rintro _ ⟨k,hk,rfl⟩ next hn
  unfold qH.L1
  simp only
  match k,hk with
  |0,_=>rw[if_neg au];simp
  | k+1,hk=>
    have e1:(((k+1:Nat):Int) - 1)=(k:Int):=ae
    have hlen:(List.replicate (k+1) (0:Int)++dK (l.drop (k+1))).length=l.length:=by simp[qI];omega
    rw[e1,if_pos ae,hlen,aI ae,at?_get ae,ai,Int.toNat_natCast,axw,aAO,bi (x:=(k:Int) - 1) ae ae]
    refine hn _ ⟨k,by omega,?_⟩ (by simp)
    rw[List.drop_eq_getElem_cons (by omega:k<l.length)]
    simp only[dK,aO]
    rw[Int.mul_comm]
theorem awG{l:List Int}(hp: ∀ x ∈ l,1≤x): ∀ k,1≤aO (l.drop k)∧aO (l.drop k)≤aO l:=by
  induction l with
  |nil=>intro k;simp[aO]
  | cons x l ih=>
    intro k
    have hx:=hp x (by simp)
    have ih':=ih λy hy=>hp y (by simp[hy])
    cases k with
    |zero=>exact⟨by simpa using rH hp,by simp⟩
    | succ k=>
      obtain⟨h1,h2⟩:=ih' k
      have h3:=rH (l:=l) λy hy=>hp y (by simp[hy])
      refine⟨by simpa using h1,?_⟩
      simp only[List.drop_succ_cons,aO]
      have:1*aO l<=x*aO l:=Int.mul_le_mul_of_nonneg_right hx ae
      omega
theorem Ui{l:List Int}(hg:Good l)(h0:aO l≠0): ∀ x ∈ l,1≤x:=fun x hx=>by
  have:=(hg.2.1 x hx).1
  by_cases h:x=0
  · subst h;exact absurd (vN hx) h0
  · omega
theorem vk{l:List Int}(hg:Good l):l.length*8<=140737488355328:=by have:=hg.1;omega
def bF:List Int→Int→List Int
  |[],_=>[]
  |_::l,a=>a / aO l::bF l (a%aO l)
theorem qC: ∀ l a,(bF l a).length=l.length
  |[],_=>rfl
  |_::l,a=>by simp[bF,qC l]
def jd:List Int→List Int→Bool
  |d::l,x::xs=>decide (0<=x)&&decide (x<d)&&jd l xs
  |_,_=>true
def nY:List Int→List Int→Int
  |_::l,x::xs=>x*aO l+nY l xs
  |_,_=>0
theorem zA: ∀ {l:List Int} {a:Int},(∀ x ∈ l,1≤x)→0≤a→a<aO l→jd l (bF l a)=true
  |[],_,_,_,_=>rfl
  | d::l,a,hp,h0,h1=>by
    have hq:1<=aO l:=rH λx hx=>hp x (by simp[hx])
    have h2:0<=a / aO l:=Int.ediv_nonneg h0 ae
    have h3:a / aO l<d:=Int.ediv_lt_of_lt_mul ae h1
    have h4:=zA (l:=l) (a:=a%aO l) (λx hx=>hp x (by simp[hx])) (Int.emod_nonneg _ ae) (Int.emod_lt_of_pos _ ae)
    simp[bF,jd,h2,h3,h4]
end Go.Av
namespace Go.Av
theorem rV{fu:Nat}{l:List Int}(h:l.length*8≤140737488355328):slices_Clone_int fu l=some l:=by
  unfold slices_Clone_int
  rw[aI ae]
end Go.Av
namespace Go.Av
def Nc(a b:aj):Bool:=decide (a.fType=b.fType)&&decide (a.fDims=b.fDims)&&decide (a.fF=b.fF)&&decide (a.fI=b.fI)&&decide (a.fB=b.fB)
def Small(t:aj):Prop:=t.fDims.length*8<=140737488351232/\t.fF.length<=140737488351232/\t.fI.length<=140737488351232/\t.fB.length<=140737488351232
def Fuel(fu:Nat)(t:aj):Prop:=t.fDims.length<fu/\t.fF.length<fu/\t.fI.length<fu/\t.fB.length<fu
theorem aye(a:aj):Nc a a=true:=by simp[Nc]
def noT:aj:=⟨0,[],[],[],[]⟩
theorem aaS{fu:Nat}{k:Int}:Dh fu k=some (decide (k=1∨k=7∨k=9)):=by
  unfold Dh xK
  by_cases h1:k=1
  · simp[h1]
  · by_cases h2:k=7
    · simp[h2]
    · by_cases h3:k=9 <;> simp[h1,h2,h3]
def tq(k:Int):Prop:=k=1∨k=7∨k=9
instance (k:Int):Decidable (tq k):=by unfold tq;infer_instance
def vZ(t:aj):Prop:=(t.fF.length:Int)=(if t.fType=1 then aO t.fDims else 0)/\(t.fI.length:Int)=(if t.fType=7 then aO t.fDims else 0)/\(t.fB.length:Int)=(if t.fType=9 then aO t.fDims else 0)
instance (t:aj):Decidable (vZ t):=by unfold vZ;infer_instance
def dQ(t:aj):Int:=if tq t.fType then(if Good t.fDims then(if vZ t then 0 else 3)else mJ t.fDims)else 5
theorem xX{fu:Nat}{t:aj}(hs:Small t)(hf:Fuel fu t):jY fu t=some (dQ t):=by
  obtain⟨s1,s2,s3,s4⟩:=hs
  unfold jY dQ;try unfold jn
  rw[aaS,ai,uN (by unfold Short;omega) hf.1]
  by_cases hk:tq t.fType
  · rw [if_pos (by simpa[tq]using hk),ai,if_pos hk]
    simp only[jP]
    by_cases hg:Good t.fDims
    · simp only[if_pos hg,if_true]
      have hp:=uB hg.2.1
      have hsum:wk .i64 ((wk .i64 ((t.fF.length:Int)+(t.fI.length:Int)))+(t.fB.length:Int))=t.fF.length+t.fI.length+t.fB.length:=by
        rw[adV,bi ae ae]
      unfold jY.k1 vZ
      simp only[hsum]
      rcases hk with e|e|e
      · simp only[e,show ¬ (1:Int)=7 by decide,show ¬ (1:Int)=9 by decide,if_false,if_true]
        by_cases h1:(t.fF.length:Int)=aO t.fDims
        · by_cases h2:(t.fF.length:Int)+t.fI.length+t.fB.length=aO t.fDims
          · rw[if_pos h1,if_pos h2,if_pos ⟨h1,by omega,by omega⟩]
          · rw[if_pos h1,if_neg h2,if_neg (λh=>h2 ae)]
        · rw[if_neg h1,if_neg (λh=>h1 h.1)]
      · simp only[e,show ¬ (7:Int)=1 by decide,show ¬ (7:Int)=9 by decide,if_false,if_true]
        by_cases h1:(t.fI.length:Int)=aO t.fDims
        · by_cases h2:(t.fF.length:Int)+t.fI.length+t.fB.length=aO t.fDims
          · rw[if_pos h1,if_pos h2,if_pos ⟨by omega,h1,by omega⟩]
          · rw[if_pos h1,if_neg h2,if_neg (λh=>h2 ae)]
        · rw[if_neg h1,if_neg (λh=>h1 h.2.1)]
      · simp only[e,show ¬ (9:Int)=1 by decide,show ¬ (9:Int)=7 by decide,if_false,if_true]
        by_cases h1:(t.fB.length:Int)=aO t.fDims
        · by_cases h2:(t.fF.length:Int)+t.fI.length+t.fB.length=aO t.fDims
          · rw[if_pos h1,if_pos h2,if_pos ⟨by omega,by omega,h1⟩]
          · rw[if_pos h1,if_neg h2,if_neg (λh=>h2 ae)]
        · rw[if_neg h1,if_neg (λh=>h1 h.2.2)]
    · simp only[if_neg hg]
      rw[if_neg (ui _)]
  · rw[if_neg (by simpa[tq]using hk),if_neg hk]
theorem gQ{t:aj}:dQ t=0 ↔ tq t.fType∧Good t.fDims∧vZ t:=by
  unfold dQ
  by_cases hk:tq t.fType <;> by_cases hg:Good t.fDims <;> by_cases hl:vZ t <;> simp[hk,hg,hl,ui]
theorem aa5{β:Type}{l:List Int}{f:Int→Int}{B:((List Int×Int)→Option β)→(List Int×Int)→Option β}{c:List Int→Option β}{fu:Nat}(hf:l.length<fu)
    (hB: ∀ (next:List Int×Int->Option β) (k:Nat) (m:List Int) (hk:k<l.length),m.length=l.length->(hm:m[k]? =some l[k])->B next (m,(k:Int))=next (m.set k (f l[k]),((k+1:Nat):Int)))
    (hE: ∀ next (m:List Int),m.length=l.length->B next (m,(l.length:Int))=c m):aT B fu (l,0)=c (l.map f):=by
  have:=Yd (body:=B) (n:=fu) l.length (λk=>(l.take k).map f++l.drop k) (c (l.map f)) ?_ ?_ hf
  · simpa using this
  · intro k hk next hn
    have hlk:((l.take k).map f).length=k:=by simp;omega
    rw[hB next k _ hk (by simp;omega) (by rw[List.getElem?_append_right ae,hlk,Nat.sub_self,List.getElem?_drop];simp[hk])]
    have e:((l.take k).map f++l.drop k).set k (f l[k])=(l.take (k+1)).map f++l.drop (k+1):=by
      rw[List.set_append_right _ _ ae,hlk,Nat.sub_self,List.drop_eq_getElem_cons hk,List.set_cons_zero,List.take_add_one,List.getElem?_eq_getElem hk,List.map_append,List.append_assoc]
      rfl
    rw[e]
    exact hn
  · intro next
    rw[hE _ _ (by simp)]
    simp
def uX(x:Int):Int:=if 2139095040<x%2147483648 then 2143289344 else x
def aF(t:aj):aj:=⟨t.fType,t.fDims,t.fF.map uX,t.fI,t.fB⟩
theorem aAM{x:Int}(h0:0≤x)(h1:x<4294967296):wk .u32 x=x:=by
  have:wk .u32 x=x%4294967296:=by simp[wk,IntKind.wrap,IntKind.signed,IntKind.bits]
  rw[this,Int.emod_eq_of_lt h0 h1]
theorem aeu{x:Int}(h0:0≤x)(h1:x<4294967296):DN .u32 x 2147483648=x%2147483648:=by
  unfold DN
  rw[show IntKind.u32.bits=32 from rfl,show ~~~(BitVec.ofInt 32 2147483648)=BitVec.ofNat 32 (2 ^ 31 - 1)by decide,BitVec.toNat_and,BitVec.toNat_ofNat,BitVec.toNat_ofInt]
  have:(2 ^ 31 - 1)%2 ^ 32=2 ^ 31 - 1:=by decide
  rw[this,Nat.and_two_pow_sub_one_eq_mod]
  have hw:=aAM (x:=(((x%((2 ^ 32:Nat):Int)).toNat%2 ^ 31:Nat):Int)) ae ae
  unfold wk at hw
  rw[hw]
  omega
theorem azd{fu:Nat}{x:Int}(h0:0≤x)(h1:x<4294967296):Fj fu x=some (uX x):=by
  unfold Fj Ns Nr uX
  rw[aeu h0 h1,ai,ai]
  by_cases h:2139095040<x%2147483648 <;> simp[h]
def pg(t:aj):Prop:=t.fDims.length*8<=140737488351232/\t.fF.length*4<=140737488351232/\t.fI.length*8<=140737488351232/\t.fB.length<=140737488351232/\ ∀ x ∈ t.fF,0<=x/\x<4294967296
theorem pg.small{t:aj}(h:pg t):Small t:=by obtain⟨a,b,c,d,_⟩:=h;exact⟨a,by omega,by omega,by omega⟩
theorem U8{fu:Nat}{t:aj}(h:pg t):Dc fu t=some t:=by
  obtain⟨h1,h2,h3,h4,_⟩:=h
  unfold Dc Nz ND NC Ny
  rw[aI ae,ai,aI ae,ai,aI ae,ai,aI ae,ai]
theorem Aa{fu:Nat}{t:aj}(h:pg t)(hf:t.fF.length<fu):jI fu t=some (aF t):=by
  have hu:=h.2.2.2.2
  have hl:=h.2.1
  unfold jI
  rw[U8 h,ai]
  unfold jI.W1
  refine aa5 (f:=uX) (c:=λm=>some (aj.mk t.fType t.fDims m t.fI t.fB)) hf ?_ ?_
  · intro next k m hk hm hg
    unfold jI.L1
    simp only[]
    obtain⟨u1,u2⟩:=hu _ (List.getElem_mem hk)
    rw[if_pos ae,at?_nat,hg,ai,azd u1 u2,ai,aI ae,dL ae]
    rfl
  · intro next m hm
    unfold jI.L1
    rw[if_neg (by simp)]
end Go.Av
namespace Go.Av
theorem ama{a b:List Int}{i:Nat}(ha:i<a.length)(hb:i<b.length):a.drop i=b.drop i ↔ a[i]=b[i]∧a.drop (i+1)=b.drop (i+1):=by
  rw[List.drop_eq_getElem_cons ha,List.drop_eq_getElem_cons hb]
  exact List.cons_eq_cons
theorem Vm{fu:Nat}{a b:List Int}(hl:Short a)(hf:a.length<fu):qG fu a b=some (decide (a=b)):=by
  unfold qG qG.W1
  by_cases hlen:a.length=b.length
  · rw [if_pos ae]
    refine(qw (λ(i:Int)=>some (decide (a.drop i.toNat=b.drop i.toNat))) (λi=>0<=i/\i<=a.length) (λi=>a.length - i.toNat) ?_ fu 0 (by simp) (by simp;omega)).trans (by simp)
    rintro i ⟨h0,h1⟩ next hn
    obtain⟨k,rfl⟩:=Int.eq_ofNat_of_zero_le h0
    unfold qG.L1
    simp only[Int.toNat_natCast]
    by_cases hk:k<a.length
    · rw[if_pos ae,at?_get hk,ai,at?_get (by omega:k<b.length),ai,dL (by unfold Short at hl;omega)]
      have hd:=ama hk (by omega:k<b.length)
      by_cases he:a[k]=b[k]
      · rw[if_pos he,hn _ ae (by simp;omega)]
        simp[hd,he]
      · rw[if_neg he]
        simp[hd,he]
    · rw[if_neg ae]
      have e1:a.drop k=b.drop k:=by rw[List.drop_of_length_le ae,List.drop_of_length_le ae]
      simp[e1]
  · rw[if_neg ae]
    have: ¬ a=b:=λh=>hlen (by rw[h])
    simp[this]
end Go.Av
namespace Go.Av
theorem UC{α:Type}[DecidableEq α]{a b:List α}(hl:a.length=b.length){fu:Nat}(hf:a.length<fu)(hs:a.length≤140737488355328){L:(Int→Option Bool)→Int→Option Bool}{c:Option Bool}
    (hL: ∀ nx i,L nx i=if i<(a.length:Int)then((at? a i).bind λx=>(at? b i).bind λy=>if x=y then(nx (wk .i64 (i+1)))else some false)else c):aT L fu 0=if a=b then c else some false:=by
  refine(qw (λ(i:Int)=>if a.drop i.toNat=b.drop i.toNat then c else some false) (λi=>0<=i/\i<=a.length) (λi=>a.length - i.toNat) ?_ fu 0 (by simp) (by simp;omega)).trans (by simp)
  rintro i ⟨h0,h1⟩ next hn
  obtain⟨k,rfl⟩:=Int.eq_ofNat_of_zero_le h0
  rw[hL]
  simp only[Int.toNat_natCast]
  by_cases hk:k<a.length
  · have hkb:k<b.length:=ae
    have hd:a.drop k=b.drop k ↔ a[k]=b[k]∧a.drop (k+1)=b.drop (k+1):=by
      rw[List.drop_eq_getElem_cons hk,List.drop_eq_getElem_cons hkb];exact List.cons_eq_cons
    rw[if_pos ae,at?_get hk,ai,at?_get hkb,ai,dL ae]
    by_cases he:a[k]=b[k]
    · rw[if_pos he,hn _ ae (by simp;omega)]
      by_cases h2:a.drop (k+1)=b.drop (k+1)
      · rw[if_pos (by simpa using h2),if_pos (hd.2 ⟨he,h2⟩)]
      · rw[if_neg (by simpa using h2),if_neg (λh=>h2 (hd.1 h).2)]
    · rw[if_neg he,if_neg (λh=>he (hd.1 h).1)]
  · rw[if_neg ae,if_pos (by rw[List.drop_of_length_le ae,List.drop_of_length_le ae])]
theorem axt{fu:Nat}{a b:aj}(hs:Small a)(hf:Fuel fu a):dZ fu a b=some (Nc a b):=by
  obtain⟨s1,s2,s3,s4⟩:=hs
  obtain⟨f1,f2,f3,f4⟩:=hf
  unfold dZ Nc;try unfold jn
  by_cases h1:a.fType=b.fType
  · rw [if_pos h1,Vm (by unfold Short;omega) f1,ai]
    by_cases h2:a.fDims=b.fDims
    · rw [if_pos (by simpa using h2)]
      by_cases l3:a.fF.length=b.fF.length
      · rw [if_pos ae]
        by_cases l4:a.fI.length=b.fI.length
        · rw[if_pos ae]
          by_cases l5:a.fB.length=b.fB.length
          · rw[if_pos ae]
            unfold dZ.k1 dZ.W3;try unfold jn
            rw[UC (L:=λnext s=>dZ.L3 fu a b next s) (a:=a.fF) (b:=b.fF) l3 f2 ae (c:=dZ.k2 fu a b) (λnx i=>rfl)]
            unfold dZ.k2 dZ.W2;try unfold jn
            rw[UC (L:=λnext s=>dZ.L2 fu a b next s) (a:=a.fI) (b:=b.fI) l4 f3 ae (c:=dZ.k3 fu a b) (λnx i=>rfl)]
            unfold dZ.k3 dZ.W1
            rw[UC (L:=λnext s=>dZ.L1 fu a b next s) (a:=a.fB) (b:=b.fB) l5 f4 ae (c:=some true) (λnx i=>by unfold dZ.L1;simp only[beq_iff_eq])]
            by_cases e3:a.fF=b.fF <;> by_cases e4:a.fI=b.fI <;> by_cases e5:a.fB=b.fB <;> simp[h1,h2,e3,e4,e5]
          · rw[if_neg ae]
            have: ¬ a.fB=b.fB:=λh=>l5 (by rw[h])
            simp[this]
        · rw[if_neg ae]
          have: ¬ a.fI=b.fI:=λh=>l4 (by rw[h])
          simp[this]
      · rw[if_neg ae]
        have: ¬ a.fF=b.fF:=λh=>l3 (by rw[h])
        simp[this]
    · rw[if_neg (by simpa using h2)]
      simp[h2]
  · rw[if_neg h1]
    simp[h1]
end Go.Av
namespace Go.Av
theorem Yc{σ β:Type}{body:(σ->Option β)->σ->Option β}{n:Nat}{s:σ}:aT body (n+1) s=body (aT body n) s:=rfl
def ad3:aP:=⟨0,[],false,⟨0,[],[],[],[]⟩⟩
def valOf(t:aj):aP:=if t.fType=0 then ad3 else⟨t.fType,t.fDims,true,t⟩
def Ah(fu:Nat)(l:List aj):Prop:=l.length<=1048576/\l.length<fu/\ ∀ t ∈ l,pg t/\Fuel fu t
theorem ad6{fu:Nat}{l:List Int}(h:l.length*8≤140737488351232):slices_Clone_int fu l=some l:=by
  unfold slices_Clone_int;rw[aI ae]
theorem adA{α β:Type}{f:α→β}{l:List α}{k:Nat}(hk:k<l.length):(l.take (k+1)).map f=(l.take k).map f++[f l[k]]:=by
  rw[List.take_add_one,List.getElem?_eq_getElem hk,List.map_append];rfl
theorem Ai{fu:Nat}{l:List aj}(h:Ah fu l):lX fu l=some (l.map valOf):=by
  unfold lX lX.W1
  have hl0:=h.1
  refine Yd l.length (λk=>(l.take k).map valOf) _ ?_ ?_ h.2.1
  · intro k hk next hn
    have ht:=(h.2.2 _ (List.getElem_mem hk)).1
    show lX.L1 fu l _ _ (k:Int)=_
    have hl:((l.take k).map valOf).length=k:=by simp;omega
    rw[adA hk]at hn
    rw[lX.L1,if_pos ae,at?_get hk,ai,dL ae]
    by_cases h0:l[k].fType=0
    · rw[if_pos h0,aI (by rw[hl];omega)]
      rw[valOf,if_pos h0]at hn
      exact hn
    · rw[if_neg h0,ad6 ht.1,ai,U8 ht,ai,aI (by rw[hl];omega)]
      rw[valOf,if_neg h0]at hn
      exact hn
  · intro next
    show lX.L1 fu l _ _ (l.length:Int)=_
    rw[lX.L1,if_neg ae,List.take_length]
def tX:List aj→Option Int
  |[]=>none
  |t::l=>if t.fType=0∨dQ t=0 then tX l else some (dQ t)
theorem ahD{l:List aj}(h:tX l=none): ∀ t ∈ l,t.fType=0∨dQ t=0:=by
  induction l with
  |nil=>intro t ht;cases ht
  | cons x l ih=>
    unfold tX at h
    split at h
    · rename_i hx
      intro t ht
      rcases List.mem_cons.1 ht with rfl|ht
      · exact hx
      · exact ih h t ht
    · cases h
theorem ahE{l:List aj}{e:Int}(h:tX l=some e):e≠0:=by
  induction l with
  |nil=>cases h
  | cons x l ih=>
    unfold tX at h
    split at h
    · exact ih h
    · rename_i hx
      injection h with h
      subst h
      exact λh0=>hx (.inr h0)
theorem aqn{β:Type}{fu:Nat}{l:List aj}(h:Ah fu l){k1:List aj→Option β}{er:Int→Option β}{L:(List aj→Int→Option β)→List aj→Int→Option β}
    (hL: ∀ nx acc i,L nx acc i=if i<(l.length:Int)then((at? l i).bind fun x=>if x.fType=0 then((jI fu x).bind fun y=>chk ((acc.length+1:Int)*104≤140737488355328)<|nx (acc++([y])) (wk .i64 (i+1)))else
      (jY fu x).bind λc=>if c=0 then((jI fu x).bind λy=>chk ((acc.length+1:Int)*104<=140737488355328)<|nx (acc++([y])) (wk .i64 (i+1)))else er c)else k1 acc):
    aT (λnext s=>L (λa b=>next (a,b)) s.1 s.2) fu (([]:List aj),(0:Int))=match tX l with|some e=>er e|none=>k1 (l.map aF):=by
  have hl0:=h.1
  have key : ∀ m q k:Nat,l.length - k=m→k≤l.length→m<q→aT (fun next s=>L (fun a b=>next (a,b)) s.1 s.2) q ((l.take k).map aF,(k:Int))=match tX (l.drop k)with|some e=>er e|none=>k1 (l.map aF):=by
    intro m
    induction m with
    | zero=>
      intro q k h1 h2 h3
      cases q with
      |zero=>omega
      | succ q=>
        have:k=l.length:=ae
        subst this
        rw[Yc]
        show L _ _ (l.length:Int)=_
        rw[hL,if_neg ae,List.take_length,List.drop_length]
        rfl
    | succ m ih=>
      intro q k h1 h2 h3
      cases q with
      |zero=>omega
      | succ q=>
        have hk:k<l.length:=ae
        obtain⟨ht,hf⟩:=h.2.2 _ (List.getElem_mem hk)
        have hl:((l.take k).map aF).length=k:=by simp;omega
        have hn:=ih q (k+1) ae ae ae
        rw[adA hk]at hn
        rw[Yc]
        show L _ _ (k:Int)=_
        rw[hL,if_pos ae,at?_get hk,ai,dL ae,List.drop_eq_getElem_cons hk]
        unfold tX
        by_cases h0:l[k].fType=0
        · rw[if_pos h0,Aa ht hf.2.1,ai,aI (by rw[hl];omega),if_pos (.inl h0)]
          exact hn
        · rw[if_neg h0,xX ht.small hf,ai]
          by_cases hc:dQ l[k]=0
          · rw[if_pos hc,Aa ht hf.2.1,ai,aI (by rw[hl];omega),if_pos (.inr hc)]
            exact hn
          · rw[if_neg hc,if_neg (λhh=>hh.elim h0 hc)]
  exact key l.length fu 0 ae ae h.2.1
end Go.Av
namespace Go.Av
def uu(k:Int)(d:List Int):aj×Int:=
  if k=1∨k=7∨k=9 then(if Good d then(if k=1 then(⟨k,d,List.replicate (aO d).toNat 0,[],[]⟩,0)else if k=7 then(⟨k,d,[],List.replicate (aO d).toNat 0,[]⟩,0)else(⟨k,d,[],[],List.replicate (aO d).toNat false⟩,0))else(noT,mJ d))else(noT,5)
theorem aej{fu:Nat}{k:Int}{d:List Int}(hd:Short d)(hf:d.length<fu):Df fu k d=some (uu k d):=by
  unfold Df uu
  rw[aaS,ai,uN hd hf,ai]
  by_cases hk:k=1∨k=7∨k=9
  · rw [if_pos (by simpa using hk),if_pos hk]
    simp only[jP]
    by_cases hg:Good d
    · simp only[if_pos hg,if_true]
      have h1:=uB hg.2.1
      have h2:=hg.2.2
      have h3:=hg.1
      unfold slices_Clone_int
      rw[aI ae,ai,aI ae,aI ae,aI ae]
      by_cases e1:k=1
      · rw[if_pos e1,if_pos e1]
      · rw[if_neg e1,if_neg e1]
        by_cases e2:k=7
        · rw[if_pos e2,if_pos e2]
        · rw[if_neg e2,if_neg e2]
    · simp only[if_neg hg]
      rw[if_neg (ui d)]
      rfl
  · rw[if_neg (by simpa using hk),if_neg hk]
    rfl
theorem Ug{σ α β:Type}(st:List α→Nat→σ){B:(σ→Option β)→σ→Option β}{at_:List Int}(bad:Int→Bool)(pk:Int→α)(z:α){e:Option β}{c:List α→Option β}
    (hB: ∀ (next:σ->Option β) (k:Nat) (m:List α) (hk:k<at_.length),m.length=at_.length->B next (st m k)=if bad at_[k]=true then e else next (st (if 0<=at_[k]then m.set k (pk at_[k])else m) (k+1)))
    (hE: ∀ (next:σ->Option β) (m:List α),m.length=at_.length->B next (st m at_.length)=c m) (hz: ∀ a,¬ 0<=a->pk a=z) {fu:Nat} (hf:at_.length<fu):
    aT B fu (st (List.replicate at_.length z) 0)=if at_.any bad=true then e else c (at_.map pk):=by
  have key : ∀ (f k:Nat),k≤at_.length→at_.length - k<f→aT B f (st ((at_.take k).map pk++List.replicate (at_.length - k) z) k)=if(at_.drop k).any bad=true then e else c (at_.map pk):=by
    intro f
    induction f with
    |zero=>intro k _ h;omega
    | succ f ih=>
      intro k hk hf
      by_cases hkn:k=at_.length
      · subst hkn
        show B _ _=_
        have:=hE (aT B f) ((at_.take at_.length).map pk++List.replicate (at_.length - at_.length) z) (by simp)
        rw[this]
        simp
      · have hk':k<at_.length:=ae
        show B _ _=_
        rw[hB _ _ _ hk' (by simp;omega),List.drop_eq_getElem_cons hk',List.any_cons]
        by_cases hb:bad at_[k]=true
        · simp[hb]
        · rw [if_neg hb]
          have hm:(if 0≤at_[k]then((at_.take k).map pk++List.replicate (at_.length - k) z).set k (pk at_[k])else(at_.take k).map pk++List.replicate (at_.length - k) z)=(at_.take (k+1)).map pk++List.replicate (at_.length - (k+1)) z:=by
            have hr:List.replicate (at_.length - k) z=z::List.replicate (at_.length - (k+1)) z:=by rw[show at_.length - k=at_.length - (k+1)+1 by omega,List.replicate_succ]
            have ht:at_.take (k+1)=at_.take k++[at_[k]]:=by rw[List.take_add_one,List.getElem?_eq_getElem hk'];rfl
            have hlen:((at_.take k).map pk).length=k:=by simp;omega
            rw[hr,ht,List.map_append,List.append_assoc]
            split
            · rw[List.set_append_right _ _ ae,hlen,Nat.sub_self]
              rfl
            · rename_i h0
              rw[List.map_singleton,hz _ h0]
              rfl
          rw[hm,ih (k+1) ae ae]
          simp[hb]
  have:=key fu 0 ae ae
  simpa using this
def su(N:Int)(x:Int):Bool:=decide (x< -1) || decide (N<=x)
def rG{α:Type}(src:List α)(z:α)(a:Int):α:=if 0<=a then src.getD a.toNat z else z
def EY(t:aj)(d l:List Int):aj×Int:=
  if dQ t=0 then(if(uu t.fType d).2=0 then(if(l.length:Int)=aO d then(if l.any (su (t.fF.length+t.fI.length+t.fB.length))=true then(noT,2)else
    (if t.fType=1 then⟨t.fType,d,l.map (rG t.fF 0),[],[]⟩else if t.fType=7 then⟨t.fType,d,[],l.map (rG t.fI 0),[]⟩else⟨t.fType,d,[],[],l.map (rG t.fB false)⟩,0))else(noT,3))else(noT,(uu t.fType d).2))else(noT,dQ t)
theorem at?_pk{α:Type}{src:List α}{z:α}{a:Int}(h0:0≤a)(h:a<src.length):at? src a=some (rG src z a):=by
  obtain⟨k,rfl⟩:=Int.eq_ofNat_of_zero_le h0
  rw[at?_get ae,rG,if_pos h0,List.getD_eq_getElem?_getD,Int.toNat_natCast,List.getElem?_eq_getElem ae]
  rfl
theorem Uh{α:Type}{src:List α}{z:α}{a:Int}(h: ¬ 0<=a):rG src z a=z:=if_neg h
theorem auT{k:Int}{d:List Int}(h:(uu k d).2=0):tq k∧Good d∧uu k d=(if k=1 then(⟨k,d,List.replicate (aO d).toNat 0,[],[]⟩,0)else if k=7 then(⟨k,d,[],List.replicate (aO d).toNat 0,[]⟩,0)else(⟨k,d,[],[],List.replicate (aO d).toNat false⟩,0)):=by
  unfold uu at h ⊢
  by_cases hk:k=1∨k=7∨k=9
  · rw[if_pos hk]at h ⊢
    by_cases hg:Good d
    · rw[if_pos hg]
      exact⟨hk,hg,rfl⟩
    · rw[if_neg hg]at h
      exact absurd h (ui d)
  · rw[if_neg hk]at h
    cases h
theorem awE{fu:Nat}{N x:Int}:vT fu x N=some (su N x):=by
  unfold vT su
  by_cases h:x< -1
  · rw[if_pos h];simp[h]
  · rw[if_neg h];simp[h]
theorem sumW{a b c:Nat}(h1:a≤140737488355328)(h2:b≤140737488355328)(h3:c≤140737488355328):wk .i64 ((wk .i64 ((a:Int)+(b:Int)))+(c:Int))=(a:Int)+b+c:=by
  rw[adV,bi ae ae]
theorem TW{N:Int}{l:List Int}(h: ¬ l.any (su N)=true){k:Nat}(hk:k<l.length): -1≤l[k]∧l[k]<N:=by
  have:=h
  simp only[List.any_eq_true,not_exists,not_and,su,Bool.or_eq_true,decide_eq_true_eq]at this
  have:=this _ (List.getElem_mem hk)
  omega
theorem Oi{fu:Nat}{t:aj}{d l:List Int}(hs:Small t)(hf:Fuel fu t)(hd:Short d)(hfd:d.length<fu)(hl:Short l)(hfl:l.length<fu):df fu t d l=some (EY t d l):=by
  unfold df EY jc
  rw[xX hs hf,ai]
  by_cases hc:dQ t=0
  · rw [if_pos hc,if_pos hc,aej hd hfd,ai]
    obtain⟨_,hg0,hlen⟩:=gQ.1 hc
    obtain⟨s1,s2,s3,s4⟩:=hs
    by_cases hn:(uu t.fType d).2=0
    · obtain ⟨hk,hg,e⟩:=auT hn
      rw[if_pos hn,if_pos hn]
      rw[sumW (a:=t.fF.length) ae ae ae]
      have hpn:=uB hg.2.1
      have hp4:=hg.2.2
      have hcf:kY fu l (λy0=>vT fu y0 ((t.fF.length:Int)+t.fI.length+t.fB.length))=some (l.any (su (t.fF.length+t.fI.length+t.fB.length))):=Gf (λx=>awE) hl hfl
      unfold Short at hl
      rw[hcf]
      rcases hk with e1|e1|e1
      · obtain ⟨l1,l2,l3⟩:=hlen
        rw[e1]at e
        simp only[if_true]at e
        simp only[e1,e,if_true,List.length_replicate,List.length_nil]at l1 l2 l3 ⊢
        simp only[show ¬ (1:Int)=7 by decide,show ¬ (1:Int)=9 by decide,if_false]at l2 l3
        rw[sumW ae ae ae]
        by_cases hll:(l.length:Int)=aO d
        · rw [if_pos ae,if_pos hll,ai]
          by_cases hb:l.any (su (t.fF.length+t.fI.length+t.fB.length))=true
          · rw[if_pos hb,if_pos hb];rfl
          · rw [if_neg hb,if_neg hb]
            have hnl:(aO d).toNat=l.length:=ae
            rw[hnl]
            have fin: ∀ m:List Int,m.length=l.length→df.c1 fu t l (⟨1,d,List.replicate l.length 0,[],[]⟩,0) m=some (⟨1,d,m,[],[]⟩,0):=fun m hm=>by
              simp[df.c1,df.c2,df.c3,chk,jc,hm]
            by_cases h0:l=[]
            · subst h0
              exact(if_pos rfl).trans (fin [] rfl)
            · have hpos:0<l.length:=List.length_pos_iff.2 h0
              rw[if_neg ae]
              unfold df.W3
              refine(Ug (λ(m:List Int) (k:Nat)=>(m,(k:Int))) (λ_=>false) (rG t.fF 0) 0 (e:=none) (c:=λm=>some (⟨1,d,m,[],[]⟩,0)) ?_ ?_ (λa=>Uh) hfl).trans (by simp)
              · intro next k m hk hm
                have hnb:=TW hb hk
                unfold df.L3
                simp only[Int.toNat_natCast,List.length_replicate]
                rw[if_pos ae,at?_get hk,ai,dL ae,if_neg (show ¬ (false=true)by decide)]
                by_cases ha:0<=l[k]
                · rw[if_pos ha,if_pos ha,at?_pk (z:=0) ha ae,ai,aI ae,aI ae]
                · rw[if_neg ha,if_neg ha]
              · intro next m hm
                unfold df.L3
                rw[if_neg (by simp)]
                exact fin m hm
        · rw[if_neg ae,if_neg hll];rfl
      · obtain ⟨l1,l2,l3⟩:=hlen
        rw[e1]at e
        simp only[show ¬ (7:Int)=1 by decide,if_false,if_true]at e
        simp only[e1,e,if_true,List.length_replicate,List.length_nil,show ¬ (7:Int)=1 by decide,show ¬ (7:Int)=9 by decide,if_false]at l1 l2 l3 ⊢
        rw[sumW ae ae ae]
        by_cases hll:(l.length:Int)=aO d
        · rw [if_pos ae,if_pos hll,ai]
          by_cases hb:l.any (su (t.fF.length+t.fI.length+t.fB.length))=true
          · rw[if_pos hb,if_pos hb];rfl
          · rw [if_neg hb,if_neg hb]
            have hnl:(aO d).toNat=l.length:=ae
            rw[hnl]
            have fin: ∀ m:List Int,m.length=l.length→df.c2 fu t l (⟨7,d,[],List.replicate l.length 0,[]⟩,0) [] m=some (⟨7,d,[],m,[]⟩,0):=fun m hm=>by
              simp[df.c2,df.c3,chk,jc,hm]
            rw[if_pos (by simp)]
            unfold df.c1;try unfold jc
            rw[aI (by simp)]
            simp only[List.length_replicate]
            by_cases h0:l=[]
            · subst h0
              exact(if_pos rfl).trans (fin [] rfl)
            · have hpos:0<l.length:=List.length_pos_iff.2 h0
              rw[if_neg ae]
              unfold df.W2
              refine(Ug (λ(m:List Int) (k:Nat)=>(m,(k:Int))) (λ_=>false) (rG t.fI 0) 0 (e:=none) (c:=λm=>some (⟨7,d,[],m,[]⟩,0)) ?_ ?_ (λa=>Uh) hfl).trans (by simp)
              · intro next k m hk hm
                have hnb:=TW hb hk
                unfold df.L2
                simp only[Int.toNat_natCast,List.length_replicate]
                rw[if_pos ae,at?_get hk,ai,dL ae,if_neg (show ¬ (false=true)by decide)]
                by_cases ha:0<=l[k]
                · rw[if_pos ha,if_pos ha,at?_pk (z:=0) ha ae,ai,aI ae,aI ae]
                · rw[if_neg ha,if_neg ha]
              · intro next m hm
                unfold df.L2
                rw[if_neg (by simp)]
                exact fin m hm
        · rw[if_neg ae,if_neg hll];rfl
      · obtain ⟨l1,l2,l3⟩:=hlen
        rw[e1]at e
        simp only[show ¬ (9:Int)=1 by decide,show ¬ (9:Int)=7 by decide,if_false]at e
        simp only[e1,e,if_true,List.length_replicate,List.length_nil,show ¬ (9:Int)=1 by decide,show ¬ (9:Int)=7 by decide,if_false]at l1 l2 l3 ⊢
        rw[sumW ae ae ae]
        by_cases hll:(l.length:Int)=aO d
        · rw [if_pos ae,if_pos hll,ai]
          by_cases hb:l.any (su (t.fF.length+t.fI.length+t.fB.length))=true
          · rw[if_pos hb,if_pos hb];rfl
          · rw [if_neg hb,if_neg hb]
            have hnl:(aO d).toNat=l.length:=ae
            rw[hnl]
            have fin: ∀ m:List Bool,m.length=l.length→df.c3 fu (⟨9,d,[],[],List.replicate l.length false⟩,0) [] [] m=some (⟨9,d,[],[],m⟩,0):=fun m hm=>by
              simp[df.c3,chk,hm]
            rw[if_pos (by simp)]
            unfold df.c1;try unfold jc
            rw[aI (by simp),if_pos (by simp)]
            unfold df.c2;try unfold jc
            rw[aI (by simp)]
            simp only[List.length_replicate]
            by_cases h0:l=[]
            · subst h0
              exact(if_pos rfl).trans (fin [] rfl)
            · have hpos:0<l.length:=List.length_pos_iff.2 h0
              rw[if_neg ae]
              unfold df.W1
              refine(Ug (λ(m:List Bool) (k:Nat)=>(m,(k:Int))) (λ_=>false) (rG t.fB false) false (e:=none) (c:=λm=>some (⟨9,d,[],[],m⟩,0)) ?_ ?_ (λa=>Uh) hfl).trans (by simp)
              · intro next k m hk hm
                have hnb:=TW hb hk
                unfold df.L1
                simp only[Int.toNat_natCast,List.length_replicate]
                rw[if_pos ae,at?_get hk,ai,dL ae,if_neg (show ¬ (false=true)by decide)]
                by_cases ha:0<=l[k]
                · rw[if_pos ha,if_pos ha,at?_pk (z:=false) ha ae,ai,aI ae,aI ae]
                · rw[if_neg ha,if_neg ha]
              · intro next m hm
                unfold df.L1
                rw[if_neg (by simp)]
                exact fin m hm
        · rw[if_neg ae,if_neg hll];rfl
    · rw[if_neg hn,if_neg hn];rfl
  · rw[if_neg hc,if_neg hc];rfl
end Go.Av
namespace Go.Av
theorem TU: ∀ (n:Nat) (l:List Nat),l.Nodup→(∀ x ∈ l,x<n)→l.length≤n
  |0,[],_,_=>Nat.le_refl _
  |0,x::l,_,h=>by have:=h x (by simp);omega
  | n + 1,l,hn,h=>by
    by_cases hm:n ∈ l
    · have h1:=TU n (l.erase n) (hn.erase n) fun x hx=>by
        have h2:=(hn.mem_erase_iff).1 hx
        have:=h x h2.2
        have:=h2.1
        omega
      have:=List.length_erase_of_mem hm
      omega
    · have:=TU n l hn fun x hx=>by
        have:=h x hx
        have:x≠n:=λe=>hm (e ▸ hx)
        omega
      omega
theorem ab7: ∀ (n:Nat) (l:List Nat),l.Nodup→(∀ x ∈ l,x<n)→l.length=n→l.Perm (List.range n)
  |0,[],_,_,_=> .refl _
  |0,x::l,_,h,_=>by have:=h x (by simp);omega
  | n + 1,l,hn,h,hl=>by
    by_cases hm:n ∈ l
    · have h1:=ab7 n (l.erase n) (hn.erase n) (fun x hx=>by
        have h2:=(hn.mem_erase_iff).1 hx
        have:=h x h2.2
        have:=h2.1
        omega) (by have:=List.length_erase_of_mem hm;omega)
      rw[List.range_succ]
      exact((List.perm_cons_erase hm).trans (h1.cons n)).trans (List.perm_append_singleton n _).symm
    · have:=TU n l hn fun x hx=>by
        have:=h x hx
        have:x≠n:=λe=>hm (e ▸ hx)
        omega
      omega
def jH:List Int→Int
  |[]=>0
  |x::l=>x+jH l
theorem azz{l m:List Int}(h:l.Perm m):jH l=jH m:=by
  induction h with
  |nil=>rfl
  |cons x _ ih=>simp only[jH,ih]
  |swap x y l=>simp only[jH];omega
  |trans _ _ i1 i2=>exact i1.trans i2
theorem acb{l m:List Int}(h:l.Perm m):aO l=aO m:=by
  induction h with
  |nil=>rfl
  |cons x _ ih=>simp only[aO,ih]
  |swap x y l=>simp only[aO];rw[← Int.mul_assoc,← Int.mul_assoc,Int.mul_comm y x]
  |trans _ _ i1 i2=>exact i1.trans i2
def gX:List Int→List Int→Int
  |x::xs,y::ys=>x*y+gX xs ys
  |_,_=>0
def gI(l:List Int)(k:Nat):Int:=l.getD k 0
theorem cu{l:List Int}{k:Nat}(h:k<l.length):gI l k=l[k]:=by
  unfold gI;rw[List.getD_eq_getElem?_getD,List.getElem?_eq_getElem h];rfl
def act(p l:List Int):List Int:=p.map λk=>gI l k.toNat
theorem lQ{p l:List Int}:(act p l).length=p.length:=List.length_map ..
theorem wC{p l:List Int}{j:Nat}(h:j<p.length):gI (act p l) j=gI l (gI p j).toNat:=by
  rw[cu (l:=p) h,cu (by rw[lQ];exact h)]
  simp[act]
theorem Ec{l m:List Int}(h:l.length=m.length)(hg: ∀ k,k<l.length→gI l k=gI m k):l=m:=by
  refine List.ext_getElem h λk h1 h2=> ?_
  have:=hg k h1
  rwa[cu h1,cu h2]at this
theorem zL{l:List Int}:(List.range l.length).map (gI l)=l:=by
  refine List.ext_getElem (by simp) λk h1 h2=> ?_
  simp only[List.getElem_map,List.getElem_range]
  exact cu h2
structure mi (p:List Int) (n:Nat):Prop where
  len:p.length=n
  oW: ∀ x ∈ p,0<=x/\x<n
  nod:p.Nodup
theorem mi.nat{p:List Int}{n:Nat}(h:mi p n):(p.map Int.toNat).Perm (List.range n):=by
  refine ab7 n _ ?_ (λx hx=> ?_) (by simp[h.len])
  · have: ∀ (l:List Int),l.Nodup→(∀ x ∈ l,0≤x)→(l.map Int.toNat).Nodup:=by
      intro l
      induction l with
      |nil=>intro _ _;simp
      | cons x l ih=>
        intro hn hr
        rw[List.nodup_cons]at hn
        rw[List.map_cons,List.nodup_cons]
        refine⟨λhm=> ?_,ih hn.2 λy hy=>hr y (by simp[hy])⟩
        obtain⟨y,hy,he⟩:=List.mem_map.1 hm
        have h1:=hr x (by simp)
        have h2:=hr y (by simp[hy])
        have:y=x:=ae
        exact hn.1 (this ▸ hy)
    exact this p h.nod λx hx=>(h.oW x hx).1
  · obtain⟨y,hy,rfl⟩:=List.mem_map.1 hx
    have:=h.oW y hy
    omega
theorem O4{p l:List Int}(h:mi p l.length):(act p l).Perm l:=by
  have h1:act p l=(p.map Int.toNat).map (gI l):=by rw[List.map_map];rfl
  have h2:=h.nat.map (gI l)
  rw[zL]at h2
  rw[h1];exact h2
theorem Rf{α:Type}{f g:α→Int}: ∀ (p:List α),gX (p.map f) (p.map g)=jH (p.map fun k=>f k*g k)
  |[]=>rfl
  |x::p=>by simp only[List.map_cons,gX,jH,Rf p]
theorem alZ{l m:List Int}(h:l.length=m.length):gX l m=jH ((List.range l.length).map fun k=>gI l k*gI m k):=by
  rw[← Rf,zL,h,zL]
theorem alY{p l m:List Int}(hp:mi p l.length)(h:l.length=m.length):gX (act p l) (act p m)=gX l m:=by
  have h1:gX (act p l) (act p m)=jH ((p.map Int.toNat).map fun k=>gI l k*gI m k):=by
    rw[List.map_map];exact Rf p
  rw[h1,alZ h]
  exact azz (hp.nat.map _)
structure Dy (p b:List Int) (n:Nat):Prop where
  len:b.length=n
  at_: ∀ i,i<n->gI b (gI p i).toNat=i
theorem mi.get{p:List Int}{n:Nat}(h:mi p n){i:Nat}(hi:i<n):0≤gI p i∧gI p i<n:=by
  have hl:=h.len
  rw[cu ae];exact h.oW _ (List.getElem_mem _)
theorem mi.onto{p:List Int}{n:Nat}(h:mi p n){j:Nat}(hj:j<n): ∃ i,i<n∧gI p i=j:=by
  have hl:=h.len
  have:j ∈ p.map Int.toNat:=h.nat.mem_iff.2 (List.mem_range.2 hj)
  obtain⟨x,hx,he⟩:=List.mem_map.1 this
  obtain⟨i,hi,rfl⟩:=List.getElem_of_mem hx
  have:=h.oW _ hx
  exact⟨i,by omega,by rw[cu hi];omega⟩
theorem Dy.inv{p b:List Int}{n:Nat}(hp:mi p n)(h:Dy p b n){j:Nat}(hj:j<n):0≤gI b j∧gI b j<n∧gI p (gI b j).toNat=j:=by
  obtain⟨i,hi,he⟩:=hp.onto hj
  have h1:=h.at_ i hi
  rw[he,Int.toNat_natCast]at h1
  rw[h1]
  refine⟨by omega,by omega,?_⟩
  rw[Int.toNat_natCast];exact he
theorem Dy.perm{p b:List Int}{n:Nat}(hp:mi p n)(h:Dy p b n):mi b n:=by
  have hl:=h.len
  refine⟨h.len,λx hx=> ?_,?_⟩
  · obtain⟨j,hj,rfl⟩:=List.getElem_of_mem hx
    have:=h.inv hp (j:=j) ae
    rw[cu hj]at this
    exact⟨this.1,this.2.1⟩
  · refine List.pairwise_iff_getElem.2 fun i j hi hjl hij he=> ?_
    have h1:=(h.inv hp (j:=i) ae).2.2
    have h2:=(h.inv hp (j:=j) ae).2.2
    rw[cu hi]at h1
    rw[cu hjl,← he,h1]at h2
    omega
theorem zB: ∀ {l xs:List Int},xs.length=l.length→(∀ j,j<l.length→0≤gI xs j∧gI xs j<gI l j)→jd l xs=true
  |[],[],_,_=>rfl
  | d ::l,x::xs,hl,h=>by
    have h0:=h 0 (by simp)
    have h1:=zB (l:=l) (xs:=xs) (by simpa using hl) fun j hj=>by
      have:=h (j+1) (by simp;omega)
      simpa[gI]using this
    simp[gI]at h0
    simp[jd,h0,h1]
theorem BR: ∀ {l xs:List Int},xs.length=l.length→jd l xs=true→ ∀ j,j<l.length→0≤gI xs j∧gI xs j<gI l j
  |[],[],_,_,j,hj=>by simp at hj
  | d ::l,x::xs,hl,h,j,hj=>by
    simp only[jd,Bool.and_eq_true,decide_eq_true_eq]at h
    cases j with
    |zero=>simpa[gI]using h.1
    | succ j=>
      have:=BR (l:=l) (xs:=xs) (by simpa using hl) h.2 j (by simpa using hj)
      simpa[gI]using this
theorem xA: ∀ {l xs:List Int},(∀ x ∈ l,0≤x)→xs.length=l.length→jd l xs=true→0≤nY l xs∧nY l xs<aO l
  |[],[],_,_,_=>by simp[nY,aO]
  | d::l,x::xs,hp,hl,h=>by
    simp only[jd,Bool.and_eq_true,decide_eq_true_eq]at h
    obtain⟨h1,h2⟩:=xA (l:=l) (xs:=xs) (λy hy=>hp y (by simp[hy])) (by simpa using hl) h.2
    simp only[nY,aO]
    have m1:(x+1)*aO l<=d*aO l:=Int.mul_le_mul_of_nonneg_right ae ae
    rw[Int.add_mul,Int.one_mul]at m1
    have m2:0<=x*aO l:=Int.mul_nonneg h.1.1 ae
    omega
def bg:List Int→List Int
  |[]=>[]
  |_::l=>aO l::bg l
theorem iV: ∀ l,(bg l).length=l.length
  |[]=>rfl
  |_::l=>by simp[bg,iV l]
theorem qx: ∀ {l xs:List Int},gX xs (bg l)=nY l xs
  |[],[]=>rfl
  |[],x::xs=>rfl
  |d::l,[]=>rfl
  |d::l,x::xs=>by simp only[bg,gX,nY,qx]
def adJ(d p:List Int)(k:Int):Int:=gX (bF (act p d) k) (act p (bg d))
theorem az6{d p:List Int}(hg:Good d)(hp:mi p d.length):Good (act p d)∧aO (act p d)=aO d:=by
  have hP:=O4 hp
  have e:=acb hP
  refine⟨⟨by rw[lQ,hp.len];exact hg.1,λx hx=>hg.2.1 x (hP.mem_iff.1 hx),by rw[e];exact hg.2.2⟩,e⟩
theorem az7{d p:List Int}(hp:mi p d.length)(hd: ∀ x ∈ d,1≤x){k:Int}(h0:0≤k)(h1:k<aO d):
    ∃ i:List Int,i.length=d.length/\jd d i=true/\act p i=bF (act p d) k/\adJ d p k=nY d i:=by
  have hP:=O4 hp
  have e:=acb hP
  have hpl:=hp.len
  have hd': ∀ x ∈ act p d,1<=x:=λx hx=>hd x (hP.mem_iff.1 hx)
  have hok:=zA (l:=act p d) hd' h0 (by rw[e];exact h1)
  have hil:(bF (act p d) k).length=d.length:=by rw[qC,lQ,hpl]
  -- the indices in the order of old
  have hb: ∃ b,Dy p b d.length:=by
    refine⟨(List.range d.length).map λj=>((p.map Int.toNat).idxOf j:Int),by simp,λi hi=> ?_⟩
    have hr:=hp.get hi
    have hx:(gI p i).toNat<d.length:=ae
    rw[cu (by simp;exact hx)]
    simp only[List.getElem_map,List.getElem_range]
    have hnod:(p.map Int.toNat).Nodup:=hp.nat.nodup_iff.2 List.nodup_range
    have hil2:i<(p.map Int.toNat).length:=by simp;omega
    have:(gI p i).toNat=(p.map Int.toNat)[i]:=by rw[cu ae];simp
    rw[this,hnod.idxOf_getElem i hil2]
  obtain⟨b,hb⟩:=hb
  have hbl:=hb.len
  have hbp:=hb.perm hp
  refine⟨act b (bF (act p d) k),by rw[lQ,hbl],?_,?_,?_⟩
  · refine zB (by rw[lQ,hbl]) fun j hj=> ?_
    obtain⟨q1,q2,q3⟩:=hb.inv hp hj
    rw[wC ae]
    have:=BR (l:=act p d) (by rw[hil,lQ,hpl]) hok (gI b j).toNat (by rw[lQ];omega)
    rw[wC (l:=d) ae,q3,Int.toNat_natCast]at this
    exact this
  · refine Ec (by rw[lQ,hil,hpl]) fun k2 hk2=> ?_
    rw[lQ]at hk2
    have hr:=hp.get (i:=k2) ae
    have:=hb.at_ k2 ae
    rw[wC hk2,wC ae,this,Int.toNat_natCast]
  · have h2:act p (act b (bF (act p d) k))=bF (act p d) k:=by
      refine Ec (by rw[lQ,hil,hpl]) λk2 hk2=> ?_
      rw[lQ]at hk2
      have hr:=hp.get (i:=k2) ae
      have:=hb.at_ k2 ae
      rw[wC hk2,wC ae,this,Int.toNat_natCast]
    unfold adJ
    conv=>lhs;arg 1;rw[← h2]
    rw[alY (l:=act b (bF (act p d) k)) (m:=bg d) (by rw[lQ,hbl];exact hp) (by rw[lQ,hbl,iV]),qx]
end Go.Av
namespace Go.Av
theorem dC{σ β:Type}{body:(σ->Option β)->σ->Option β}{n:Nat}{s:σ}:aT body (n+1) s=body (aT body n) s:=rfl
theorem D5{τ β:Type}{body:(τ→Option β)→τ→Option β}(N:Nat)(st:Nat→τ)(r:Option β)(h: ∀ k,k<N→ ∀ next,next (st (k+1))=r→body next (st k)=r)
    (he: ∀ next,body next (st N)=r) {n:Nat} (hn:N<n):aT body n (st 0)=r:=by
  have: ∀ m k,k≤N→N - k<m→aT body m (st k)=r:=by
    intro m
    induction m with
    |zero=>intro k _ h;omega
    | succ m ih=>
      intro k hk hm
      by_cases hkN:k=N
      · subst hkN;exact he _
      · exact h k ae _ (ih (k+1) ae ae)
  exact this n 0 ae ae
def rq(d i:List Int):Nat→Option (List Int)
  |0=>none
  |m+1=>if gI i m+1<gI d m then some (i.take m++(gI i m+1)::List.replicate (d.length - (m+1)) 0)else rq d i m
theorem aaA{d x:Int}{l xs:List Int}: ∀ m,rq (d::l) (x::xs) (m+1)=match rq l xs m with|some ys=>some (x::ys)|none=>if x+1<d then some ((x+1)::List.replicate l.length 0)else none
  |0=>by simp[rq,gI]
  | m +1=>by
    have ih:=aaA (d:=d) (x:=x) (l:=l) (xs:=xs) m
    rw[rq]
    have e1:gI (x::xs) (m+1)=gI xs m:=by simp[gI]
    have e2:gI (d::l) (m+1)=gI l m:=by simp[gI]
    rw[e1,e2]
    conv=>rhs;rw[rq]
    by_cases h:gI xs m+1<gI l m
    · rw[if_pos h,if_pos h]
      simp
    · rw[if_neg h,if_neg h,ih]
theorem Le: ∀ {l:List Int},bF l 0=List.replicate l.length 0
  |[]=>rfl
  |d::l=>by simp[bF,Le,List.replicate_succ]
theorem SS: ∀ {l:List Int} {k:Int},(∀ x ∈ l,1≤x)→0≤k→k<aO l→rq l (bF l k) l.length=if k+1<aO l then some (bF l (k+1))else none
  | [],k,_,h0,h1=>by
    have h1':k<1:=h1
    rw[if_neg (show ¬ k+1<aO []from λh=>by have h':k+1<1:=h;omega)];rfl
  | d ::l,k,hp,h0,h1=>by
    have hp': ∀ x ∈ l,1<=x:=λx hx=>hp x (by simp[hx])
    have hq:1<=aO l:=rH hp'
    have hr0:=Int.emod_nonneg k (b:=aO l) ae
    have hr1:=Int.emod_lt_of_pos k (b:=aO l) ae
    have hq0:0<=k / aO l:=Int.ediv_nonneg h0 ae
    have hq1:k / aO l<d:=Int.ediv_lt_of_lt_mul ae h1
    have hk:=Int.mul_ediv_add_emod k (aO l)
    have ih:=SS hp' hr0 hr1
    rw[List.length_cons]
    show rq (d::l) (k / aO l::bF l (k%aO l)) (l.length+1)=_
    rw[aaA,ih]
    have hpd:aO (d::l)=d*aO l:=rfl
    rw[hpd]at h1 ⊢
    clear hpd ih hp'
    generalize hqq:k / aO l=q at*
    generalize hrr:k%aO l=r at*
    generalize hP:aO l=P at*
    by_cases hc:r+1<P
    · rw[if_pos hc]
      have e:k+1=P*q+(r+1):=ae
      have e1:(k+1) / P=q:=by rw[e,Int.add_comm,Int.add_mul_ediv_left _ _ ae,Int.ediv_eq_zero_of_lt ae hc];omega
      have e2:(k+1)%P=r+1:=by rw[e,Int.add_comm,Int.add_mul_emod_self_left,Int.emod_eq_of_lt ae hc]
      have m1:(q+1)*P<=d*P:=Int.mul_le_mul_of_nonneg_right ae ae
      rw[Int.add_mul,Int.one_mul,Int.mul_comm q P]at m1
      rw[if_pos (show k+1<d*P by omega)]
      simp only[bF,hP,e1,e2]
    · rw[if_neg hc]
      have e:k+1=P*(q+1):=by rw[Int.mul_add,Int.mul_one];omega
      have e1:(k+1) / P=q+1:=by rw[e,Int.mul_ediv_cancel_left _ ae]
      have e2:(k+1)%P=0:=by rw[e,Int.mul_emod_right]
      simp only
      by_cases hd:q+1<d
      · have m1:(q+1+1)*P≤d*P:=Int.mul_le_mul_of_nonneg_right ae ae
        rw[Int.add_mul,Int.one_mul,Int.mul_comm (q+1) P]at m1
        rw[if_pos hd,if_pos (show k+1<d*P by omega)]
        simp only[bF,hP,e1,e2,Le]
      · have m1:d*P≤(q+1)*P:=Int.mul_le_mul_of_nonneg_right ae ae
        rw[Int.mul_comm (q+1) P]at m1
        rw[if_neg hd,if_neg (show ¬ k+1<d*P by omega)]
theorem adz{i:List Int}{m:Nat}(h:m<i.length):i.take (m+1)=i.take m++[gI i m]:=by
  rw[List.take_add_one,List.getElem?_eq_getElem h,cu h];rfl
theorem set_mid{a b:List Int}{x y:Int}{m:Nat}(h:a.length=m):(a++x::b).set m y=a++y::b:=by
  subst h
  rw[List.set_append_right _ _ (Nat.le_refl _)]
  simp
theorem KT{a b:List Int}{x:Int}{m:Nat}(h:a.length=m):at? (a++x::b) (m:Int)=some x:=by
  subst h
  rw[at?_get (by simp)]
  simp
theorem aaK{fu:Nat}{t:aj}{d i l0:List Int}{v:Int}{nx1:List Int→List Int→Option aj}(hl:i.length=d.length)(hd:d.length≤8)(hi: ∀ j,j<d.length→0≤gI i j∧gI i j≤4096):
    ∀ (m q:Nat),m≤d.length→m<q→aT (fun next s=>cO.L2 fu nx1 t d l0 v (fun a b=>next (a,b)) s.1 s.2) q (i.take m++List.replicate (d.length - m) 0,(m:Int) - 1)=
      match rq d i m with|some ys=>nx1 (l0++[v]) ys|none=>(df fu t d (l0++[v])).bind λx=>some x.1
  | 0,q,hm,hq=>by
    obtain⟨q,rfl⟩: ∃ q',q=q'+1:=⟨q - 1,by omega⟩
    rw[dC]
    simp only[cO.L2]
    rw[if_neg ae]
    rfl
  | m +1,q,hm,hq=>by
    obtain⟨q,rfl⟩: ∃ q',q=q'+1:=⟨q - 1,by omega⟩
    obtain⟨i0,i1⟩:=hi m ae
    have htl:(i.take m).length=m:=by simp;omega
    rw[dC]
    simp only[cO.L2]
    rw[show((m+1:Nat):Int) - 1=(m:Int)by omega,if_pos ae,adz ae,List.append_assoc]
    show(at? (i.take m++gI i m::List.replicate (d.length - (m+1)) 0) (m:Int)).bind _=_
    have hlen:(i.take m++gI i m::List.replicate (d.length - (m+1)) 0).length=d.length:=by simp;omega
    rw[KT htl,ai,aI (by simp;omega),Int.toNat_natCast,bi (x:=gI i m+1) ae ae]
    show(at? ((i.take m++gI i m::List.replicate (d.length - (m+1)) 0).set m (gI i m+1)) (m:Int)).bind _=_
    rw[set_mid htl,KT htl,ai,at?_get ae,ai]
    conv=>rhs;rw[rq]
    rw[← cu (l:=d) ae]
    by_cases hc:gI i m+1<gI d m
    · rw[if_pos hc,if_pos hc]
      show nx1 (l0++[v]) ((i.take m++gI i m::List.replicate (d.length - (m+1)) 0).set m (gI i m+1))=_
      rw[set_mid htl]
    · rw[if_neg hc,if_neg hc]
      show chk (0<=(m:Int)/\(m:Int)<(((i.take m++gI i m::List.replicate (d.length - (m+1)) 0).set m (gI i m+1)).length:Int)) (aT _ q (((i.take m++gI i m::List.replicate (d.length - (m+1)) 0).set m (gI i m+1)).set m 0,wk .i64 ((m:Int) - 1)))=_
      rw[aI (by rw[List.length_set,hlen];omega),set_mid htl,set_mid htl,bi ae ae]
      have:=aaK (nx1:=nx1) (t:=t) (fu:=fu) (l0:=l0) (v:=v) hl hd hi m q ae ae
      rw[← this]
      congr 2
      rw[show d.length - m=(d.length - (m+1))+1 by omega,List.replicate_succ]
theorem aas{l:List Int}{k:Int}(hg:Good l)(hp: ∀ x ∈ l,1≤x)(h0:0≤k)(h1:k<aO l): ∀ j,j<l.length→0≤gI (bF l k) j∧gI (bF l k) j≤4096:=fun j hj=>by
  have h2:=BR (qC l k) (zA hp h0 h1) j hj
  have h3:=hg.2.1 _ (List.getElem_mem hj)
  rw[← cu hj]at h3
  omega
theorem ab9{fu:Nat}{t:aj}{d:List Int}{N:Nat}{p2:List Int→Option Int}{f:Nat→Int}(hs:Small t)(hft:Fuel fu t)(hg:Good d)(hN:aO d=(N:Int))(hf:5000<fu)
    (hp: ∀ k:Nat,k<N->p2 (bF d (k:Int))=some (f k)):cO fu t d p2=some (EY t d ((List.range N).map f)).1:=by
  have h8:=hg.1
  have h4:=hg.2.2
  unfold cO
  rw[Gg (by unfold Short;omega) ae,ai]
  by_cases hz:(d.any λy=>decide ((0:Int)=y))=true
  · have hz':(0:Int) ∈ d:=by
      obtain⟨x,hx,hx2⟩:=List.any_eq_true.1 hz
      simp at hx2;subst hx2;exact hx
    have:N=0:=by have:=vN hz';omega
    subst this
    rw[if_pos hz,Oi hs hft (by unfold Short;omega) ae (by simp[Short]) (by simp;omega)]
    rfl
  · rw [if_neg hz]
    have hpos: ∀ x ∈ d,1≤x:=fun x hx=>by
      have:=(hg.2.1 x hx).1
      simp only[List.any_eq_true,decide_eq_true_eq,not_exists,not_and]at hz
      have:=hz x hx;omega
    have h1:=rH hpos
    rw[aI ae,Int.toNat_natCast]
    unfold cO.W1
    have hz0:(([]:List Int),List.replicate d.length (0:Int))=((λk:Nat=>((List.range k).map f,bF d (k:Int))) 0):=by simp[Le]
    rw[hz0]
    have step: ∀ (k:Nat),k<N→ ∀ (next:List Int×List Int→Option aj),cO.L1 fu p2 t d (fun a b=>next (a,b)) ((List.range k).map f) (bF d (k:Int))=if k+1<N then next ((List.range (k+1)).map f,bF d ((k+1:Nat):Int))else(df fu t d ((List.range (k+1)).map f)).bind fun x=>some x.1:=fun k hk next=>by
      have hlk:((List.range k).map f).length=k:=by simp
      unfold cO.L1 cO.W2
      rw[hp k hk,ai,aI (by rw[hlk];omega),bi ae ae]
      have hil:(bF d (k:Int)).length=d.length:=qC _ _
      have:=aaK (fu:=fu) (t:=t) (l0:=(List.range k).map f) (v:=f k) (nx1:=λa b=>next (a,b)) hil h8 (aas hg hpos ae ae) d.length fu (Nat.le_refl _) ae
      rw[Nat.sub_self,List.replicate_zero,List.append_nil,List.take_of_length_le ae,SS hpos ae ae]at this
      rw[this]
      have e:(List.range k).map f++[f k]=(List.range (k+1)).map f:=by rw[List.range_succ,List.map_append];rfl
      by_cases hc:k+1<N
      · rw[if_pos hc,if_pos ae,e]
        show next (_,_)=_
        rw[show((k:Int)+1)=((k+1:Nat):Int)by omega]
      · rw[if_neg hc,if_neg ae,e]
    refine D5 (N - 1) (λk:Nat=>((List.range k).map f,bF d (k:Int))) _ ?_ ?_ ae
    · intro k hk next hn
      show cO.L1 fu p2 t d (λa b=>next (a,b)) ((List.range k).map f) (bF d (k:Int))=_
      rw[step k ae,if_pos ae]
      exact hn
    · intro next
      show cO.L1 fu p2 t d (λa b=>next (a,b)) ((List.range (N - 1)).map f) (bF d ((N - 1:Nat):Int))=_
      rw[step (N - 1) ae,if_neg ae,show N - 1+1=N by omega,Oi hs hft (by unfold Short;omega) ae (by simp[Short];omega) (by simp;omega)]
      rfl
end Go.Av
namespace Go.Av
def iC(a:Int)(n:Nat):Option Int:=if 0<=a then(if a<n then some a else none)else if -(n:Int)<=a then some (n+a)else none
theorem xU{fu:Nat}{a:Int}{n:Nat}(hn:n≤100):og fu a (n:Int)=some (match iC a n with|some k=>(k,0)|none=>(0,2)):=by
  unfold og iC
  rw[if_neg ae,bi (x:=0 - (n:Int)) ae ae]
  by_cases h:0<=a
  · rw[if_pos h,if_pos h]
    by_cases h1:a<n
    · rw[if_pos h1,if_pos h1]
    · rw[if_neg h1,if_neg h1]
  · rw[if_neg h,if_neg h]
    by_cases h1:0 - (n:Int)<=a
    · rw[if_pos h1,if_pos (show -(n:Int)<=a by omega),bi ae ae]
    · rw[if_neg h1,if_neg (show ¬ -(n:Int)<=a by omega)]
theorem GL{a:Int}{n:Nat}{k:Int}(h:iC a n=some k):0≤k∧k<n:=by
  unfold iC at h
  split at h
  · split at h
    · injection h with h;omega
    · cases h
  · split at h
    · injection h with h;omega
    · cases h
section
variable {fu:Nat}
end
theorem Q9: ∀ {xs ys:List Int},(∀ x ∈ xs,0≤x)→(∀ y ∈ ys,0≤y)→0≤gX xs ys
  |[],_,_,_=>by simp[gX]
  |_::_,[],_,_=>by simp[gX]
  | x::xs,y::ys,hx,hy=>by
    have h1:=Q9 (xs:=xs) (ys:=ys) (λz hz=>hx z (by simp[hz])) (λz hz=>hy z (by simp[hz]))
    have h2:0<=x*y:=Int.mul_nonneg (hx x (by simp)) (hy y (by simp))
    simp only[gX];omega
theorem JR{fu:Nat}{xs ys:List Int}(hl:xs.length=ys.length)(hx: ∀ x ∈ xs,0≤x)(hy: ∀ y ∈ ys,0≤y)(hb:gX xs ys≤1000000)(hn:ys.length≤100)(hf:200<fu):dY fu xs ys=some (gX xs ys):=by
  unfold dY dY.W1
  refine(qw (λ(s:Int×Int)=>some (s.1+gX (xs.drop s.2.toNat) (ys.drop s.2.toNat))) (λs=>0<=s.2/\s.2<=ys.length/\0<=s.1/\s.1+gX (xs.drop s.2.toNat) (ys.drop s.2.toNat)<=1000000) (λs=>ys.length - s.2.toNat) ?_ fu _ (by simp;omega) (by simp;omega)).trans (by simp)
  rintro⟨a,i⟩ ⟨h0,h1,h2,h3⟩ next hn2
  simp only at h0 h1 h2 h3 hn2 ⊢
  obtain⟨k,rfl⟩:=Int.eq_ofNat_of_zero_le h0
  unfold dY.L1
  simp only[Int.toNat_natCast]at h3 ⊢
  by_cases hk:k<ys.length
  · have hk2:k<xs.length:=ae
    rw[List.drop_eq_getElem_cons hk,List.drop_eq_getElem_cons hk2]at h3 ⊢
    simp only[gX]at h3 ⊢
    have p1:0<=xs[k]*ys[k]:=Int.mul_nonneg (hx _ (List.getElem_mem hk2)) (hy _ (List.getElem_mem hk))
    have p2:0<=gX (xs.drop (k+1)) (ys.drop (k+1)):=Q9 (λz hz=>hx z (List.mem_of_mem_drop hz)) (λz hz=>hy z (List.mem_of_mem_drop hz))
    rw[if_pos ae,at?_get hk,ai,at?_get hk2,ai,bi (x:=xs[k]*ys[k]) ae ae,bi (x:=a+xs[k]*ys[k]) ae ae,dL ae]
    rw[hn2 (_,((k+1:Nat):Int)) ⟨by simp only[];omega,by simp only[];omega,by simp only[];omega,by simp only[Int.toNat_natCast];omega⟩ (by simp;omega)]
    simp only[Int.toNat_natCast]
    congr 1
    omega
  · rw[if_neg ae,List.drop_of_length_le ae,List.drop_of_length_le ae]
    simp[gX]
theorem CZ: ∀ {l:List Int},(∀ x ∈ l,1≤x)→aO l≤1000000→dK l=bg l
  |[],_,_=>rfl
  | d::l,h,hb=>by
    have h': ∀ x ∈ l,1<=x:=λx hx=>h x (by simp[hx])
    have h1:=rH h'
    have h2:1*aO l<=d*aO l:=Int.mul_le_mul_of_nonneg_right (h d (by simp)) ae
    simp only[aO]at hb
    have h3:aO l<=1000000:=ae
    simp only[dK,bg]
    rw[CZ h' h3,bi ae ae]
theorem zV: ∀ {l:List Int},(∀ x ∈ l,1≤x)→ ∀ y ∈ bg l,0≤y
  |[],_,y,hy=>by simp[bg]at hy
  | d::l,h,y,hy=>by
    have h': ∀ x ∈ l,1<=x:=λx hx=>h x (by simp[hx])
    simp only[bg,List.mem_cons]at hy
    rcases hy with rfl|hy
    · have:=rH h';omega
    · exact zV h' y hy
theorem aar{l:List Int}{k:Int}(hp: ∀ x ∈ l,1≤x)(h0:0≤k)(h1:k<aO l): ∀ x ∈ bF l k,0≤x:=fun x hx=>by
  obtain⟨j,hj,rfl⟩:=List.getElem_of_mem hx
  have:=BR (qC l k) (zA hp h0 h1) j (by rw[qC]at hj;exact hj)
  rw[cu hj]at this
  exact this.1
section
variable {fu:Nat}
theorem rJ{l:List Int}(hg:Good l)(hf:20<fu):jA fu l=some (dK l):=by
  have h8:=hg.1
  unfold jA Nl
  rw[uN (by unfold Short;omega) ae,ai,jP,if_pos hg,if_pos rfl,azw ae ae,ai,ai]
theorem sF{t:aj}:dQ (aF t)=dQ t:=by
  unfold dQ vZ aF
  simp only[List.length_map]
theorem ai1{t:aj}(h:pg t):Small (aF t):=by
  have:=h.small
  unfold Small aF at*
  simpa using this
theorem Xz{t:aj}(h:Fuel fu t):Fuel fu (aF t):=by
  unfold Fuel aF at*
  simpa using h
end
theorem aww{α:Type}{L:List α}{z:α}{a:Int}(h0:0≤a)(h1:a<L.length):rG L z a=L[a.toNat]'ae:=by
  unfold rG
  rw[if_pos h0,List.getD_eq_getElem?_getD,List.getElem?_eq_getElem ae]
  rfl
theorem qE{t:aj}(hc:dQ t=0):t.fDims.length≤8∧t.fF.length≤4096∧t.fI.length≤4096∧t.fB.length≤4096:=by
  obtain⟨hk,hg,l1,l2,l3⟩:=gQ.1 hc
  have h8:=hg.1
  have h4:=hg.2.2
  refine⟨h8,?_,?_,?_⟩
  · split at l1 <;> omega
  · split at l2 <;> omega
  · split at l3 <;> omega
theorem axr{fu:Nat}{x:Int}(h0:0≤x):E5 fu x=some (uX x):=by
  unfold E5 MP MO uX
  rw[Int.tmod_eq_emod_of_nonneg h0,ai,ai]
  by_cases h:2139095040<x%2147483648 <;> simp[h]
theorem acR{fu:Nat}{t:aj}(h:pg t):Ce fu t=some t:=by
  obtain⟨h1,h2,h3,h4,_⟩:=h
  unfold Ce
  rw[aI ae,aI ae,aI ae,aI ae]
theorem axs{fu:Nat}{t:aj}(h:pg t)(hf:t.fF.length<fu):qh fu t=some (aF t):=by
  have hu:=h.2.2.2.2
  have hl:=h.2.1
  unfold qh
  rw[acR h,ai]
  unfold qh.W1
  refine aa5 (f:=uX) (c:=λm=>some (aj.mk t.fType t.fDims m t.fI t.fB)) hf ?_ ?_
  · intro next k m hk hm hg
    unfold qh.L1
    simp only[]
    obtain⟨u1,u2⟩:=hu _ (List.getElem_mem hk)
    rw[if_pos ae,at?_nat,hg,ai,axr u1,ai,aI ae,dL ae]
    rfl
  · intro next m hm
    unfold qh.L1
    rw[if_neg (by simp only[];omega)]
end Go.Av
namespace Go.Av
def ja(n:Nat):List Int→List Bool→Bool→List Bool×Int
  |[],m,tw=>if tw=true then([],1)else(m,0)
  | a::l,m,tw=>match iC a n with
    |some k=>ja n l (m.set k.toNat true) (tw || m.getD k.toNat false)
    |none=>([],2)
theorem KR{m:List Bool}{a x:Nat}(ha:a<m.length):(m.set a true).getD x false=if a=x then true else m.getD x false:=by
  rw[List.getD_eq_getElem?_getD,List.getElem?_set,List.getD_eq_getElem?_getD]
  by_cases h:a=x
  · subst h;simp[ha]
  · simp[h]
theorem VO{n:Nat}: ∀ (l:List Int) (m:List Bool) (tw:Bool),m.length=n→(∀ x ∈ l,0≤x)→
    ((ja n l m tw).2=0 ↔ tw=false/\(∀ x ∈ l,x<n)/\l.Nodup/\ ∀ x ∈ l,m.getD x.toNat false=false)/\((ja n l m tw).2=0->(ja n l m tw).1.length=n)
  | [],m,tw,hm,_=>by
    unfold ja
    cases tw <;> simp[hm]
  | a :: l, m,tw,hm,hp=>by
    have ha:=hp a (by simp)
    unfold ja
    have hv:iC a n=if a<n then some a else none:=by unfold iC;rw[if_pos ha]
    rw[hv]
    by_cases hlt:a<n
    · rw [if_pos hlt]
      simp only
      have hp': ∀ x ∈ l,0<=x:=λx hx=>hp x (by simp[hx])
      have hax: ∀ x ∈ l,a ∉ l→ ¬ a.toNat=x.toNat:=fun x hx hna e=>hna (by
        have:=hp' x hx
        have e2:a=x:=ae
        rw[e2];exact hx)
      obtain⟨i1,i2⟩:=VO (n:=n) l (m.set a.toNat true) (tw || m.getD a.toNat false) (by simp[hm]) hp'
      refine⟨i1.trans ⟨λ⟨h1,h2,h3,h4⟩=> ?_,λ⟨h1,h2,h3,h4⟩=> ?_⟩,i2⟩
      · rw [Bool.or_eq_false_iff]at h1
        have hna:a ∉ l:=fun hm2=>by
          have:=h4 a hm2
          rw[KR ae,if_pos rfl]at this;cases this
        refine⟨h1.1,λx hx=> ?_,List.nodup_cons.2 ⟨hna,h3⟩,λx hx=> ?_⟩
        · rcases List.mem_cons.1 hx with rfl|hx
          · exact hlt
          · exact h2 x hx
        · rcases List.mem_cons.1 hx with rfl|hx
          · exact h1.2
          · have:=h4 x hx
            rw[KR ae,if_neg (hax x hx hna)]at this
            exact this
      · rw[List.nodup_cons]at h3
        refine⟨by rw[h1,h4 a (by simp)];rfl,λx hx=>h2 x (by simp[hx]),h3.2,λx hx=> ?_⟩
        rw[KR ae,if_neg (hax x hx h3.1)]
        exact h4 x (by simp[hx])
    · rw[if_neg hlt]
      simp only
      refine⟨⟨λh=>absurd h au,λh=>absurd (h.2.1 a (by simp)) hlt⟩,λh=>absurd h au⟩
theorem NV{fu:Nat}{p:List Int}{n:Nat}(hn:n≤8)(hl:p.length≤140737488351232)(hf:p.length<fu):jF fu p (n:Int)=some (ja n p (List.replicate n false) false):=by
  unfold jF jn
  rw[if_neg ae,if_neg ae]
  unfold jF.k1 jn
  rw[aI ae,Int.toNat_natCast]
  unfold jF.W1
  refine(qw (λ(s:List Bool×Bool×Int)=>some (ja n (p.drop s.2.2.toNat) s.1 s.2.1)) (λs=>0<=s.2.2/\s.2.2<=p.length/\s.1.length=n) (λs=>p.length - s.2.2.toNat) ?_ fu _ (by simp) (by simp;omega)).trans (by simp)
  rintro⟨m,tw,i⟩ ⟨h0,h1,h2⟩ next hn2
  simp only at h0 h1 h2 hn2 ⊢
  obtain⟨k,rfl⟩:=Int.eq_ofNat_of_zero_le h0
  unfold jF.L1
  simp only[Int.toNat_natCast]
  by_cases hk:k<p.length
  · rw [if_pos ae,at?_get hk,ai,xU ae,ai,List.drop_eq_getElem_cons hk,dL ae]
    conv=>rhs;unfold ja
    cases hv:iC p[k] n with
    |none=>simp only;rw[if_neg au]
    | some a=>
      obtain⟨a0,a1⟩:=GL hv
      simp only
      rw[if_pos trivial]
      have hn3:=λb=>hn2 (m.set a.toNat true,b,((k+1:Nat):Int)) ⟨by simp only[];omega,by simp only[];omega,by simp[h2]⟩ (by simp;omega)
      simp only[Int.toNat_natCast]at hn3
      obtain⟨j,rfl⟩:=Int.eq_ofNat_of_zero_le a0
      cases tw with
      |true=>rw[if_pos rfl,aI ae,hn3,Bool.true_or]
      | false=>
        rw[if_neg au,at?_get ae,ai,aI ae,hn3,Bool.false_or,Int.toNat_natCast,List.getD_eq_getElem?_getD,List.getElem?_eq_getElem ae]
        rfl
  · rw[if_neg ae,List.drop_of_length_le ae]
    unfold jF.k2 ja
    cases tw <;> rfl
end Go.Av
namespace Go.Av
def pl{α:Type}(n:Nat)(f:Nat->Int)(L:List α)(z:α):List α:=((List.range n).map f).map (rG L z)
theorem awx{α:Type}{n:Nat}{f:Nat->Int}{L:List α}{z:α}:(pl n f L z).length=n:=by simp[pl]
def pTq(e:List Int)(n:Nat)(f:Nat->Int)(t:aj):aj:=(EY t e ((List.range n).map f)).1
structure Gq (e:List Int) (m n:Nat) (f:Nat→Int) (t:aj):Prop where
  chk:dQ t=0
  good:Good e
  he:aO e=(m:Int)
  hd:aO t.fDims=(n:Int)
  hf: ∀ k,k<m-> -1<=f k/\f k<n
section
variable {e:List Int} {m n:Nat} {f:Nat->Int} {t:aj}
theorem Uf(h:Gq e m n f t):pTq e m f t=if t.fType=1 then⟨t.fType,e,pl m f t.fF 0,[],[]⟩else if t.fType=7 then⟨t.fType,e,[],pl m f t.fI 0,[]⟩else⟨t.fType,e,[],[],pl m f t.fB false⟩:=by
  obtain⟨hc,hge,he,hd,hf⟩:=h
  obtain⟨hk,hg,hL⟩:=gQ.1 hc
  have hnew:(uu t.fType e).2=0:=by
    unfold uu
    rw[if_pos (show t.fType=1∨t.fType=7∨t.fType=9 from hk),if_pos hge]
    split
    · rfl
    · split <;> rfl
  have hlen:((((List.range m).map f).length:Nat):Int)=aO e:=by simp;omega
  have hsum:(t.fF.length:Int)+t.fI.length+t.fB.length=aO t.fDims:=by
    obtain⟨l1,l2,l3⟩:=hL
    rcases hk with e|e|e <;> simp[e]at l1 l2 l3 <;> simp[l1,l2,l3]
  have hbad: ¬ (((List.range m).map f).any (su (t.fF.length+t.fI.length+t.fB.length))=true):=by
    rw[hsum]
    intro h
    obtain⟨x,hx,hx2⟩:=List.any_eq_true.1 h
    obtain⟨k,hk,rfl⟩:=List.mem_map.1 hx
    have:=hf k (List.mem_range.1 hk)
    simp[su]at hx2
    omega
  unfold pTq EY
  rw[if_pos hc,if_pos hnew,if_pos hlen,if_neg hbad]
  rfl
theorem aws(h:Gq e m n f t):(pTq e m f t).fType=t.fType∧(pTq e m f t).fDims=e:=by
  rw[Uf h]
  split
  · exact⟨rfl,rfl⟩
  · split <;> exact⟨rfl,rfl⟩
theorem awr(h:Gq e m n f t):dQ (pTq e m f t)=0:=by
  obtain⟨e1,e2⟩:=aws h
  obtain⟨hk,hg,hL⟩:=gQ.1 h.chk
  refine gQ.2 ⟨by rw[e1];exact hk,by rw[e2];exact h.good,?_⟩
  rw[Uf h]
  have:=h.he
  rcases hk with e|e|e <;> simp[e,vZ,awx] <;> omega
end
def rF(k:Int)(d:List Int):aP:=⟨k,d,false,⟨0,[],[],[],[]⟩⟩
end Go.Av
set_option linter.unusedSimpArgs false
set_option maxRecDepth 20000
namespace Go.Av
def fI{α:Type}(q:α→Bool):List α→Int→Int
  |[],_=> -1
  |x::l,i=>if q x=true then i else fI q l (i+1)
theorem ZX{α:Type}{q:α→Bool}: ∀ {l:List α} {i:Int},0≤i→decide (0≤fI q l i)=l.any q
  |[],i,h=>by simp[fI]
  | x::l,i,h=>by
    unfold fI
    by_cases hx:q x=true
    · rw[if_pos hx];simp[hx,h]
    · rw[if_neg hx,ZX ae];simp[hx]
theorem Ry{α:Type}{fu:Nat}{l:List α}{p:α→Option Bool}{q:α→Bool}(hp: ∀ x ∈ l,p x=some (q x))(hl:l.length≤1000000)(hf:l.length<fu){L:(Int→Option Int)→Int→Option Int}
    (hL: ∀ nx i,L nx i=if i<(l.length:Int)then((at? l i).bind λx7=>(p x7).bind λx8=>if x8=true then(some i)else nx (wk .i64 (i+1)))else some (-1)):(aT (λnext s=>L next s) fu 0).bind (λx2=>some (decide (0<=x2)))=some (l.any q):=by
  rw[qw (λ(s:Int)=>some (fI q (l.drop s.toNat) s)) (λs=>0<=s/\s<=l.length) (λs=>l.length - s.toNat) ?_ fu 0 (by simp) (by simp;omega)]
  · rw[ai,ZX ae];simp
  · rintro s ⟨h0,h1⟩ next hn
    obtain⟨k,rfl⟩:=Int.eq_ofNat_of_zero_le h0
    rw[hL,Int.toNat_natCast]
    by_cases hk:k<l.length
    · rw[if_pos ae,at?_get hk,ai,hp _ (List.getElem_mem hk),ai,List.drop_eq_getElem_cons hk,fI]
      by_cases hx:q l[k]=true
      · rw[if_pos hx,if_pos hx]
      · rw[if_neg hx,if_neg hx,dL ae,hn _ ⟨by omega,by omega⟩ (by simp;omega),Int.toNat_natCast]
        rfl
    · rw[if_neg ae,List.drop_of_length_le ae,fI]
theorem LX{β:Type}{fu N:Nat}(hl:N≤1000000)(hf:N<fu){E:Int→Option Int}{e:Nat→Int}(hE: ∀ k,k<N→E (k:Int)=some (e k)){c:List Int→Option β}{L:(List Int→Int→Option β)→List Int→Int→Option β}
    (hL: ∀ nx m i,L nx m i=if i<(N:Int)then((E i).bind λx9=>chk ((m.length+1:Int)*8<=140737488355328)<|nx (m++[x9]) (wk .i64 (i+1)))else c m):aT (λnext s=>L (λa b=>next (a,b)) s.1 s.2) fu (([]:List Int),(0:Int))=c ((List.range N).map e):=by
  have hz:(([]:List Int),(0:Int))=(λk:Nat=>((List.range k).map e,(k:Int))) 0:=rfl
  rw[hz]
  refine D5 N (λk:Nat=>((List.range k).map e,(k:Int))) _ ?_ ?_ hf
  · intro k hk next hn
    show L (λa b=>next (a,b)) ((List.range k).map e) (k:Int)=_
    rw[hL,if_pos ae,hE k hk,ai,aI (by simp;omega),dL ae,← hn,List.range_succ,List.map_append]
    rfl
  · intro next
    show L (λa b=>next (a,b)) ((List.range N).map e) (N:Int)=_
    rw[hL,if_neg ae]
theorem bY{l:List Int}{k:Nat}(h:k<l.length):at? l (k:Int)=some (gI l k):=by rw[at?_get h,cu h]
theorem NW{fu:Nat}{a b:List Int}(hl:Short a)(hf:a.length<fu):slices_Equal_int fu a b=some (decide (a=b)):=by
  have h:=Vm (fu:=fu) (a:=a) (b:=b) hl hf
  exact h
section
variable {fu:Nat}
theorem QU{p:aP→Option Bool}{q:aP→Bool}{k:List aP}(hp: ∀ x ∈ k,p x=some (q x))(hl:k.length≤1000000)(hf:k.length<fu):qi fu k p=some (k.any q):=by
  unfold qi oq oq.W1
  exact Ry hp hl hf (λnx i=>rfl)
theorem akD{p:Int→Option Bool}{q:Int→Bool}{k:List Int}(hp: ∀ x ∈ k,p x=some (q x))(hl:k.length≤1000000)(hf:k.length<fu):zT fu k p=some (k.any q):=by
  unfold zT ou ou.W1
  exact Ry hp hl hf (λnx i=>rfl)
theorem cfI{p:Int→Option Bool}{q:Int→Bool}{k:List Int}(hp: ∀ x ∈ k,p x=some (q x))(hl:k.length≤1000000)(hf:k.length<fu):kY fu k p=some (k.any q):=by
  unfold kY lL lL.W1
  exact Ry hp hl hf (λnx i=>rfl)
end
theorem Po{n:Nat}: ∀ {p:List Int} {m:List Bool} {tw:Bool},m.length=n→(ja n p m tw).2=0→(ja n p m tw).1.length=n
  | [],m,tw,hm,h=>by
    unfold ja at h ⊢
    cases tw
    · exact hm
    · simp at h
  | a::l,m,tw,hm,h=>by
    unfold ja at h ⊢
    cases hk:iC a n with
    |none=>rw[hk]at h;simp at h
    |some k=>rw[hk]at h;exact Po (by simp[hm]) h
def iZ(op:Int):Prop:=(45<=op/\op<=60)∨(62<=op/\op<=64)
theorem allM{P:Int→Prop}(h: ∀ n:Fin 20,n.val≠16→P ((n.val:Int)+45)){op:Int}(ho:iZ op):P op:=by
  unfold iZ at ho
  have:=h ⟨(op - 45).toNat,by omega⟩ (by show(op - 45).toNat≠16;omega)
  rwa[show(((op - 45).toNat:Nat):Int)+45=op by omega]at this
theorem Hz{τ β:Type}{body:(τ→Option β)→τ→Option β}(N:Nat)(st:Nat→τ)(P:Nat→Prop)(Q:Option β→Prop)
    (h: ∀ k,k<N->P k-> ∀ next,(P (k+1)->Q (next (st (k+1))))->Q (body next (st k))) (he:P N-> ∀ next,Q (body next (st N))) (h0:P 0) {n:Nat} (hn:N<n):Q (aT body n (st 0)):=by
  have : ∀ m k,k≤N→N - k<m→P k→Q (aT body m (st k)):=by
    intro m
    induction m with
    |zero=>intro k _ h;omega
    | succ m ih=>
      intro k hk hm hp
      rw[dC]
      by_cases hlt:k<N
      · exact h k hlt hp _ (λhp'=>ih (k+1) ae ae hp')
      · obtain rfl:k=N:=ae
        exact he hp _
  exact this n 0 ae ae h0
def arT:List (Int×Int×Int):=[(1,1,1),(2,2,1),(1,64,1),(1,2,64),(3,5,1),(2,2,1),(2,2,1),(3,3,1),(2,3,1),(2,2,1),(2,2,1),(1,2,1),(2,2,1),(1,1,1),(1,1,1),(1,1,1),(0,0,1),(1,1,1),(1,1,1),(1,1,1)]
def ar(op:Int):Int×Int×Int:=arT.getD (op - 45).toNat (0,0,0)
theorem ahe{fu:Nat}{op:Int}(h:iZ op):zD fu op=some ((ar op).1,(ar op).2.1,1,(ar op).2.2):=
  allM (P:=λop=>zD fu op=some ((ar op).1,(ar op).2.1,1,(ar op).2.2)) (show ∀ n:Fin 20,n.val≠16->zD 0 ((n.val:Int)+45)=_ by decide+kernel) h
theorem Pm{op:Int}(h:iZ op):1<=(ar op).1/\(ar op).1<=3/\(ar op).2.1<=64/\1<=(ar op).2.2:=allM (P:=λop=>1<=(ar op).1/\(ar op).1<=3/\(ar op).2.1<=64/\1<=(ar op).2.2) (by decide+kernel) h
def vl(l:List aP)(i:Nat):aP:=l.getD i ad3
section
variable {fu:Nat} {op:Int} {s:dh} {l:List aP}
theorem xQ(i:Nat):oN fu ⟨op,s,l,1⟩ (i:Int)=some (vl l i):=by
  unfold oN vl
  dsimp only
  by_cases h:i<l.length
  · rw[if_pos ae,at?_nat,List.getElem?_eq_getElem h,ai,List.getD_eq_getElem?_getD,List.getElem?_eq_getElem h];rfl
  · rw[if_neg ae,List.getD_eq_getElem?_getD,List.getElem?_eq_none ae];rfl
theorem U0:oN fu ⟨op,s,l,1⟩ 0=some (vl l 0):=xQ 0
theorem wY(i:Nat):nS fu ⟨op,s,l,1⟩ (i:Int)=some (!(decide ((vl l i).fType=0))):=by
  unfold nS;rw[xQ,ai]
theorem JO(i:Nat):jk fu ⟨op,s,l,1⟩ (i:Int)=some (vl l i).fDims:=by
  unfold jk;rw[xQ,ai]
theorem iR:jk fu ⟨op,s,l,1⟩ 0=some (vl l 0).fDims:=JO 0
theorem JM:jk fu ⟨op,s,l,1⟩ 1=some (vl l 1).fDims:=JO 1
theorem ZE:jk fu ⟨op,s,l,1⟩ 2=some (vl l 2).fDims:=JO 2
def Full(op:Int)(l:List aP):Prop:=(ar op).1<=l.length/\(l.length:Int)<=(ar op).2.1/\ ∀ i:Nat,(i:Int)<(ar op).1->(vl l i).fType≠0
theorem ak8(h:iZ op)(hf:20<fu): ∃ b,kR fu ⟨op,s,l,1⟩=some b∧(b=true→Full op l):=by
  have h61: ¬ op=61:=by unfold iZ at h;omega
  have h3:=Pm h
  unfold kR;try unfold jn
  rw[ahe h,ai]
  dsimp only
  rw[if_neg au,if_neg h61]
  by_cases h1:(l.length:Int)<(ar op).1
  · rw[if_pos h1];exact⟨_,rfl,λh=>by cases h⟩
  rw[if_neg h1]
  by_cases h2:(ar op).2.1<(l.length:Int)
  · rw[if_pos h2];exact⟨_,rfl,λh=>by cases h⟩
  rw[if_neg h2,if_neg au,if_neg ae]
  unfold kR.k1 kR.W1
  refine Hz (body:=λnext s_1=>_) (ar op).1.toNat (λk=>(k:Int)) (λk=> ∀ i:Nat,i<k->(vl l i).fType≠0) (λr=> ∃ b,r=some b/\(b=true->Full op l)) ?_ ?_ (λi hi=>by omega) ae
  · intro k hk hp next hn
    show ∃ b,kR.L1 fu _ _ next (k:Int)=some b/\_
    unfold kR.L1
    dsimp only
    rw[if_pos ae,wY,ai,dL ae]
    by_cases h0:(vl l k).fType=0
    · rw[if_neg (by simpa using h0)];exact⟨_,rfl,λh=>by cases h⟩
    · rw[if_pos (by simpa using h0)]
      exact hn fun i hi=>by
        by_cases e:i=k
        · rw[e];exact h0
        · exact hp i ae
  · intro hp next
    show ∃ b,kR.L1 fu _ _ next (((ar op).1.toNat:Nat):Int)=some b/\_
    unfold kR.L1
    dsimp only
    rw[if_neg ae]
    exact⟨_,rfl,λ_=>⟨by omega,by omega,λi hi=>hp i ae⟩⟩
def FW(t:Int):Int:=if t=1 then 4 else if t=7 then 8 else if t=9 then 1 else 0
theorem adU{t:Int}:xK fu t=some (FW t):=by
  unfold xK FW
  by_cases h1:t=1
  · simp[h1]
  · by_cases h2:t=7
    · simp[h2]
    · by_cases h3:t=9 <;> simp[h1,h2,h3]
theorem adT{t:Int}:FW t=0 ↔ ¬ (t=1∨t=7∨t=9):=by
  unfold FW
  by_cases h1:t=1
  · simp[h1]
  · by_cases h2:t=7
    · simp[h2]
    · by_cases h3:t=9 <;> simp[h1,h2,h3]
def Bj(c t t0 tp:Int):Bool:=if c=110 then decide (t=1∨t=7)else if c=102 then decide (t=1)else if c=98 then decide (t=9)else if c=105 then decide (t=7)else if c=61 then decide (t=t0)else if c=43 then decide (t=tp)else decide (0<FW t)
theorem am7{i:Nat}{c:Int}(hc:c=43→1≤i)(hi:i≤100):ru fu ⟨op,s,l,1⟩ (i:Int) c=some (Bj c (vl l i).fType (vl l 0).fType (vl l (i - 1)).fType):=by
  unfold ru ru.k1 Bj;try unfold jn
  rw[xQ,ai]
  by_cases h1:c=110
  · rw[if_pos h1,if_pos h1]
    by_cases h:(vl l i).fType=1
    · rw[if_pos h];simp[h]
    · rw[if_neg h];simp[h]
  rw[if_neg h1,if_neg h1]
  by_cases h2:c=102
  · rw[if_pos h2,if_pos h2]
  rw[if_neg h2,if_neg h2]
  by_cases h3:c=98
  · rw[if_pos h3,if_pos h3]
  rw[if_neg h3,if_neg h3]
  by_cases h4:c=105
  · rw[if_pos h4,if_pos h4]
  rw[if_neg h4,if_neg h4]
  by_cases h5:c=61
  · rw[if_pos h5,if_pos h5,U0,ai]
  rw[if_neg h5,if_neg h5]
  by_cases h6:c=43
  · have:=hc h6
    rw[if_pos h6,if_pos h6,bi ae ae,show(i:Int) - 1=((i - 1:Nat):Int)by omega,xQ,ai]
  · rw[if_neg h6,if_neg h6,adU,ai]
def lt(op:Int)(i:Nat):Int:=if op=62 then 105 else if i=0 then 97 else if op=47 then 61 else if(op=52∨op=53)/\2<=i then 61 else if op=45∨58<=op then 97 else 105
theorem aua{op:Int}{i:Nat}:lt op i≠43:=by
  unfold lt
  repeat' split
  all_goals decide
def UG(op:Int):Bool:=match eU 0 op with
  |some S=>(List.range 64).all λi=>decide (sat? S (iH (i:Int) (wk .i64 ((S.size:Int) - 1)))=some (lt op i))
  |none=>false
theorem aze(h:iZ op): ∃ S,eU fu op=some S∧ ∀ i:Nat,i<64→sat? S (iH (i:Int) (wk .i64 ((S.size:Int) - 1)))=some (lt op i):=by
  have h1:UG op=true:=allM (P:=λop=>UG op=true) (by decide+kernel) h
  have h2:eU fu op=eU 0 op:=rfl
  unfold UG at h1
  rw[h2]
  cases hs:eU 0 op with
  |none=>rw[hs]at h1;cases h1
  | some S=>
    rw[hs]at h1
    refine⟨S,rfl,λi hi=> ?_⟩
    have:=List.all_eq_true.1 h1 i (List.mem_range.2 hi)
    simpa using this
def TY(op:Int)(l:List aP)(i:Nat):Prop:=(vl l i).fType≠0->tq (vl l i).fType/\Bj (lt op i) (vl l i).fType (vl l 0).fType (vl l (i - 1)).fType=true
theorem aAv(h:iZ op)(hl:l.length≤64)(hf:200<fu): ∃ b,kS fu ⟨op,s,l,1⟩=some b∧(b=true→ ∀ i:Nat,i<l.length→TY op l i):=by
  obtain⟨S,hS,hL⟩:=aze (fu:=fu) h
  unfold kS;try unfold jn
  show ∃ b,(eU fu op).bind _=some b/\_
  rw[hS,ai]
  unfold kS.W1
  refine Hz (body:=λnext s_1=>_) l.length (λk=>(k:Int)) (λk=> ∀ i:Nat,i<k->TY op l i) (λr=> ∃ b,r=some b/\(b=true-> ∀ i:Nat,i<l.length->TY op l i)) ?_ ?_ (λi hi=>by omega) ae
  · intro k hk hp next hn
    show ∃ b,kS.L1 fu _ _ next (k:Int)=some b/\_
    unfold kS.L1
    dsimp only
    rw[if_pos ae,wY,ai,dL ae]
    have step:TY op l k→ ∃ b,next ((k+1:Nat):Int)=some b∧(b=true→ ∀ i:Nat,i<l.length→TY op l i):=fun ht=>hn fun i hi=>by
      by_cases e:i=k
      · rw[e];exact ht
      · exact hp i ae
    by_cases h0:(vl l k).fType=0
    · rw[if_neg (by simpa using h0)];exact step λhh=>absurd h0 hh
    · rw[if_pos (by simpa using h0),xQ,ai,adU,ai]
      by_cases hw:(vl l k).fType=1∨(vl l k).fType=7∨(vl l k).fType=9
      · rw[if_neg (fun hh=>adT.1 hh hw),hL k ae,ai,am7 (fun hh=>absurd hh aua) ae,ai]
        by_cases hv:Bj (lt op k) (vl l k).fType (vl l 0).fType (vl l (k - 1)).fType=true
        · rw[if_pos hv];exact step λ_=>⟨hw,hv⟩
        · rw[if_neg hv];exact⟨_,rfl,λh=>by cases h⟩
      · rw[if_pos (adT.2 hw)];exact⟨_,rfl,λh=>by cases h⟩
  · intro hp next
    show ∃ b,kS.L1 fu _ _ next ((l.length:Nat):Int)=some b/\_
    unfold kS.L1 kS.k1
    dsimp only
    rw[if_neg ae]
    by_cases h52:op=52
    · rw[if_pos h52]
      by_cases hm:s.fMode=0
      · rw[if_pos hm];exact⟨_,rfl,λ_=>hp⟩
      · rw[if_neg hm,U0,ai];exact⟨_,rfl,λ_=>hp⟩
    · rw[if_neg h52]
      exact⟨_,rfl,λ_=>hp⟩
structure AT (op:Int) (s:dh) (l:List aP):Prop where
  perm:op=45->s.fHasPerm=true->(ja (vl l 0).fDims.length s.fPerm (List.replicate (vl l 0).fDims.length false) false).2=0/\s.fPerm.length=(vl l 0).fDims.length/\ ∀ x ∈ s.fPerm,0<=x
  axis:op=47∨op=48∨op=50∨op=51∨op=52-> ∃ k:Nat,iC s.fAxis (vl l 0).fDims.length=some (k:Int)/\k<(vl l 0).fDims.length
  flat:op=58-> -((vl l 0).fDims.length:Int)<=s.fAxis/\s.fAxis<=(vl l 0).fDims.length
  value:op=62->dQ s.fValue=0/\s.fValue.fF.length+s.fValue.fI.length+s.fValue.fB.length=1
  block:op=63∨op=64->1<=s.fBlock/\s.fBlock<=4096
structure wu (fu:Nat) (s:dh):Prop where
  perm:s.fPerm.length<=1048576
  permf:s.fPerm.length<fu
  valt:pg s.fValue
  valf:Fuel fu s.fValue
theorem ahp(h:iZ op)(hs:wu fu s)(hr:(vl l 0).fDims.length≤8)(hf:200<fu): ∃ b,kQ fu ⟨op,s,l,1⟩=some b∧(b=true→AT op s l):=by
  unfold iZ at h
  unfold kQ kQ.k1 kQ.k2 Bv;try unfold jn
  rw[iR,ai,ai]
  dsimp only
  rw[if_neg ae,if_neg ae]
  by_cases h62:op=62
  · subst h62
    rw[if_pos rfl]
    have hv:=hs.valt.small
    rw[sumW (by have:=hv.2.1;omega) (by have:=hv.2.2.1;omega) (by have:=hv.2.2.2;omega)]
    by_cases h1:(s.fValue.fF.length:Int)+s.fValue.fI.length+s.fValue.fB.length=1
    · rw[if_pos h1,xX hs.valt.small hs.valf,ai]
      refine⟨_,rfl,λhb=>⟨λh=>by omega,λh=>by omega,λh=>by omega,λ_=>⟨by simpa using hb,by omega⟩,λh=>by omega⟩⟩
    · rw[if_neg h1];exact⟨_,rfl,λh=>by cases h⟩
  rw[if_neg h62]
  have blk: ∀ o:Int,(o=63∨o=64)→op=o→ ∃ b,(if 1≤s.fBlock then some (decide (s.fBlock≤4096))else some false:Option Bool)=some b∧(b=true→AT op s l):=fun o ho he=>by
    by_cases h1:1<=s.fBlock
    · rw[if_pos h1]
      exact⟨_,rfl,λhb=>⟨λh=>by omega,λh=>by omega,λh=>by omega,λh=>by omega,λ_=>⟨h1,by simpa using hb⟩⟩⟩
    · rw[if_neg h1];exact⟨_,rfl,λh=>by cases h⟩
  by_cases h63:op=63
  · rw[if_pos h63];exact blk 63 (.inl rfl) h63
  rw[if_neg h63]
  by_cases h64:op=64
  · rw[if_pos h64];exact blk 64 (.inr rfl) h64
  rw[if_neg h64]
  by_cases h45:op=45
  · subst h45
    rw[if_pos rfl,NV hr (by have:=hs.perm;omega) hs.permf,ai]
    by_cases hp:s.fHasPerm=true
    · rw [if_pos hp]
      by_cases h0:(ja (vl l 0).fDims.length s.fPerm (List.replicate (vl l 0).fDims.length false) false).2=0
      · rw [if_pos h0]
        by_cases hl:(s.fPerm.length:Int)=(((ja (vl l 0).fDims.length s.fPerm (List.replicate (vl l 0).fDims.length false) false).1.length:Nat):Int)
        · rw [if_pos hl,Gf (p:=fun y0=>Bq fu y0) (q:=fun x=>decide (x<0)) (fun x=>rfl) (by unfold Short;have:=hs.perm;omega) hs.permf,ai]
          refine⟨_,rfl,λhb=>⟨λ_ _=>⟨h0,?_,?_⟩,λh=>by omega,λh=>by omega,λh=>by omega,λh=>by omega⟩⟩
          · rw[Po (by simp) h0]at hl;omega
          · intro x hx
            rcases Int.lt_or_le x 0 with hn|hn
            · exfalso
              have:(s.fPerm.any λx=>decide (x<0))=true:=List.any_eq_true.2 ⟨x,hx,by simpa using hn⟩
              rw[this]at hb;cases hb
            · exact hn
        · rw[if_neg hl];exact⟨_,rfl,λh=>by cases h⟩
      · rw[if_neg h0];exact⟨_,rfl,λh=>by cases h⟩
    · rw[if_neg hp]
      exact⟨_,rfl,λ_=>⟨λ_ h=>absurd h hp,λh=>by omega,λh=>by omega,λh=>by omega,λh=>by omega⟩⟩
  rw[if_neg h45]
  have ax:op=47∨op=48∨op=50∨op=51∨op=52→ ∃ b,((og fu s.fAxis ((vl l 0).fDims.length:Int)).bind fun x7=>some (decide (x7.2=0)))=some b∧(b=true→AT op s l):=fun ho=>by
    rw[xU ae,ai]
    cases hk:iC s.fAxis (vl l 0).fDims.length with
    |none=>exact⟨_,rfl,λh=>by simp at h⟩
    | some k=>
      have hr:=GL hk
      exact⟨_,rfl,λ_=>⟨λh=>by omega,λ_=>⟨k.toNat,by rw[Int.toNat_of_nonneg hr.1];exact hk,by omega⟩,λh=>by omega,λh=>by omega,λh=>by omega⟩⟩
  by_cases h47:op=47
  · rw[if_pos h47,if_pos rfl];exact ax ae
  rw[if_neg h47]
  by_cases h48:op=48
  · rw[if_pos h48,if_pos rfl];exact ax ae
  rw[if_neg h48]
  by_cases h50:op=50
  · rw[if_pos h50,if_pos rfl];exact ax ae
  rw[if_neg h50]
  by_cases h51:op=51
  · rw[if_pos h51,if_pos rfl];exact ax ae
  rw[if_neg h51]
  by_cases h52:op=52
  · rw[if_pos h52,if_pos rfl];exact ax ae
  rw[if_neg h52,if_neg ae,if_neg ae,if_neg ae,decide_eq_false ae,if_neg au]
  by_cases h58:op=58
  · rw[if_pos h58,bi ae ae]
    by_cases h1:0 - ((vl l 0).fDims.length:Int)<=s.fAxis
    · rw[if_pos h1]
      exact⟨_,rfl,λhb=>⟨λh=>by omega,λh=>by omega,λ_=>⟨by omega,by simpa using hb⟩,λh=>by omega,λh=>by omega⟩⟩
    · rw[if_neg h1];exact⟨_,rfl,λh=>by cases h⟩
  rw[if_neg h58]
  refine⟨true,?_,λ_=>⟨λh=>by omega,λh=>by omega,λh=>by omega,λh=>by omega,λh=>by omega⟩⟩
  repeat rw[if_neg ae]
end
end Go.Av
set_option linter.unusedSimpArgs false
namespace Go.Av
structure HD (fu:Nat) (v:aP):Prop where
  con:v.fConst=true
  chk:dQ v.fT=0
  ty:v.fT.fType=v.fType
  dm:v.fT.fDims=v.fDims
  sm:Small v.fT
  fl:Fuel fu v.fT
def LS(op:Int):Nat×Nat:=if op=62 then(0,1)else if op=49 then(1,5)else if op=46∨op=48∨(53<=op/\op<=57)then(1,2)else(0,0)
def pU(l:List aP)(a n:Nat):List aP:=((List.range' a n).filter (λi=> !decide ((vl l i).fType=0))).map (vl l)
section
variable {fu:Nat} {op:Int} {s:dh} {l:List aP}
theorem TC{b:Nat}: ∀ (n a q:Nat) (acc:List aP),a+n=b→b≤100→acc.length+n≤100→n<q→
    aT (λnext s_1=>iM.L1 fu ⟨op,s,l,1⟩ (b:Int) (λx6 x7=>next (x6,x7)) s_1.1 s_1.2) q (acc,(a:Int))=some (acc++pU l a n)
  |n,a,0,acc,_,_,_,hq=>by omega
  | 0,a,q+1,acc,h1,h2,h3,hq=>by
    rw[dC]
    show iM.L1 fu _ _ _ acc (a:Int)=_
    rw[iM.L1,if_neg ae]
    simp[pU]
  | n +1,a,q+1,acc,h1,h2,h3,hq=>by
    rw[dC]
    show iM.L1 fu _ _ _ acc (a:Int)=_
    rw[iM.L1,if_pos ae,wY,ai,dL ae]
    have e:pU l a (n+1)=(if(vl l a).fType=0 then []else [vl l a])++pU l (a+1) n:=by
      unfold pU
      rw[List.range'_succ,List.filter_cons]
      by_cases h0:(vl l a).fType=0 <;> simp[h0]
    by_cases h0:(vl l a).fType=0
    · rw[if_neg (by simpa using h0)]
      show aT _ q (acc,((a+1:Nat):Int))=_
      rw[TC n (a+1) q acc ae h2 ae ae,e,if_pos h0]
      rfl
    · rw[if_pos (by simpa using h0),xQ,ai,aI ae]
      show aT _ q (acc++[vl l a],((a+1:Nat):Int))=_
      rw[TC n (a+1) q (acc++[vl l a]) ae h2 (by simp;omega) ae,e,if_neg h0,List.append_assoc]
theorem atK(h:iZ op)(hf:20<fu):iM fu ⟨op,s,l,1⟩=some (pU l (LS op).1 ((LS op).2 - (LS op).1)):=by
  unfold iZ at h
  unfold iM LS
  rw[dB]
  dsimp only
  have k: ∀ (a n:Nat),a+n≤100→n≤10→iM.k1 fu ⟨op,s,l,1⟩ (a:Int) ((a+n:Nat):Int)=some (pU l a n):=fun a n h1 h2=>by
    unfold iM.k1 iM.W1
    exact TC n a fu [] rfl h1 (by simp;omega) ae
  by_cases h62:op=62
  · rw[if_pos h62,if_pos h62];exact k 0 1 ae ae
  rw[if_neg h62,if_neg h62]
  by_cases h49:op=49
  · rw[if_pos h49,if_pos h49];exact k 1 4 ae ae
  rw[if_neg h49,if_neg h49]
  have k1:=k 1 1 ae ae
  by_cases hr:op=46∨op=48∨(53<=op/\op<=57)
  · rw[if_pos hr]
    by_cases h46:op=46
    · rw[if_pos h46];exact k1
    rw[if_neg h46]
    by_cases h48:op=48
    · rw[if_pos h48];exact k1
    rw[if_neg h48]
    by_cases h53:op=53
    · rw[if_pos h53];exact k1
    rw[if_neg h53]
    by_cases h54:op=54
    · rw[if_pos h54];exact k1
    rw[if_neg h54]
    by_cases h55:op=55
    · rw[if_pos h55];exact k1
    rw[if_neg h55]
    by_cases h56:op=56
    · rw[if_pos h56];exact k1
    rw[if_neg h56,if_pos ae];exact k1
  · rw[if_neg hr]
    repeat rw[if_neg ae]
    rfl
theorem aa3{a n:Nat}{v:aP}:v ∈ pU l a n ↔ ∃ i,a≤i∧i<a+n∧(vl l i).fType≠0∧vl l i=v:=by
  unfold pU
  simp only[List.mem_map,List.mem_filter,List.mem_range'_1,Bool.not_eq_true',decide_eq_false_iff_not]
  exact⟨λ⟨i,⟨⟨h1,h2⟩,h3⟩,h4⟩=>⟨i,h1,h2,h3,h4⟩,λ⟨i,h1,h2,h3,h4⟩=>⟨i,⟨⟨h1,h2⟩,h3⟩,h4⟩⟩
theorem at7{a n:Nat}:(pU l a n).length≤n:=by
  unfold pU
  rw[List.length_map]
  exact Nat.le_trans (List.length_filter_le _ _) (by simp)
def Vo(op:Int)(l:List aP):Prop:= ∀ i:Nat,(LS op).1<=i->i<(LS op).2->(vl l i).fType≠0->(vl l i).fDims.length=1/\(op≠49-> ∀ x ∈ (vl l i).fT.fI,x<=4096)
theorem aqo{v:aP}(h:HD fu v)(hf:20<fu):Eu fu v=some true:=by
  have hl:=qE h.chk
  unfold Eu
  rw[if_pos h.con,xX h.sm h.fl,ai,h.chk,if_pos rfl,if_pos h.ty,NW (by unfold Short;omega) ae,ai,h.dm]
  simp
theorem aeg(h:iZ op):(LS op).1+((LS op).2 - (LS op).1)=(LS op).2∧(LS op).2 - (LS op).1≤4∧(LS op).2≤5:=by
  unfold LS
  repeat' split
  all_goals simp
theorem az3(h:iZ op)(hd: ∀ i,(vl l i).fType≠0→HD fu (vl l i))(hf:5000<fu): ∃ e,y5 fu ⟨op,s,l,1⟩=some e∧(e=0→Vo op l):=by
  have hL:=aeg h
  have hm: ∀ v ∈ pU l (LS op).1 ((LS op).2 - (LS op).1),HD fu v:=fun v hv=>by
    obtain⟨i,_,_,h3,h4⟩:=aa3.1 hv
    rw[← h4];exact hd i h3
  have hn:=at7 (l:=l) (a:=(LS op).1) (n:=(LS op).2 - (LS op).1)
  have hin: ∀ i,(LS op).1<=i->i<(LS op).2->(vl l i).fType≠0->vl l i ∈ pU l (LS op).1 ((LS op).2 - (LS op).1):=λi h1 h2 h3=>aa3.2 ⟨i,h1,by omega,h3,rfl⟩
  unfold y5
  rw[atK h ae,ai]
  generalize pU l (LS op).1 ((LS op).2 - (LS op).1)=L at hm hn hin
  rw[QU (q:=fun _=>false) (fun v hv=>by unfold y7;rw[aqo (hm v hv) ae,ai];rfl) ae ae,ai,if_neg (by simp),
    QU (p:=λy0=>y8 fu y0) (q:=λv=> !(decide ((v.fDims.length:Int)=1))) (λv hv=>rfl) ae ae,ai]
  by_cases h1:(L.any λv=> !(decide ((v.fDims.length:Int)=1)))=true
  · rw[if_pos h1];exact⟨_,rfl,λh=>absurd h au⟩
  rw[if_neg h1]
  have q1: ∀ v ∈ L,v.fDims.length=1:=fun v hv=>by
    have:=λh=>h1 (List.any_eq_true.2 ⟨v,hv,h⟩)
    simp at this
    omega
  dsimp only
  by_cases h49:op=49
  · rw[if_pos h49]
    exact⟨_,rfl,λ_ i a b c=>⟨q1 _ (hin i a b c),λhh=>absurd h49 hh⟩⟩
  rw[if_neg h49,QU (q:=fun v=>v.fT.fI.any fun n=>decide (4096<n)) (fun v hv=>by
    have hl:=qE (hm v hv).chk
    unfold y9
    rw[akD (p:=λy0=>Bz fu y0) (q:=λn=>decide (4096<n)) (λx _=>rfl) ae ae,ai]) ae ae,ai]
  by_cases h2:(L.any λv=>v.fT.fI.any λn=>decide (4096<n))=true
  · rw[if_pos h2];exact⟨_,rfl,λh=>absurd h au⟩
  rw[if_neg h2]
  refine⟨_,rfl,λ_ i a b c=>⟨q1 _ (hin i a b c),λ_ x hx=> ?_⟩⟩
  rcases Int.lt_or_le 4096 x with hh|hh
  · exact absurd (List.any_eq_true.2 ⟨_,hin i a b c,List.any_eq_true.2 ⟨x,hx,by simpa using hh⟩⟩) h2
  · exact hh
theorem zS{d:List Int}(gd:Good d)(hf:20<fu):eF fu d=some (aO d,0):=by
  rw[uN (by have:=gd.1;unfold Short;omega) (by have:=gd.1;omega)]
  simp only[jP,if_pos gd]
theorem aaj:Good []:=by
  unfold Good
  exact⟨by decide,λx hx=>absurd hx (by simp),by decide⟩
structure AH (op:Int) (s:dh) (l:List aP):Prop where
  at_:AT op s l
  ty: ∀ i:Nat,i<l.length->TY op l i
  tld:Vo op l
theorem aAS(h:iZ op)(hs:wu fu s)(hl:l.length≤64)(hg: ∀ v ∈ l,Good v.fDims)(hr:(vl l 0).fDims.length≤8)(hd: ∀ i,(vl l i).fType≠0→HD fu (vl l i))(hf:5000<fu): ∃ e,kT fu ⟨op,s,l,1⟩=some e∧(e=0→AH op s l):=by
  unfold kT kT.W1;try unfold jn
  refine Hz (body:=λnext s_1=>_) l.length (λk=>(k:Int)) (λ_=>True) (λr=> ∃ e,r=some e/\(e=0->AH op s l)) ?_ ?_ trivial ae
  · intro k hk hp next hn
    show ∃ b,kT.L1 fu _ next (k:Int)=some b/\_
    unfold kT.L1
    dsimp only
    rw[if_pos ae,at?_nat,List.getElem?_eq_getElem hk,ai,zS (hg _ (List.getElem_mem hk)) ae,ai,wY,ai,dL ae]
    split
    · rw[if_pos rfl];exact hn trivial
    · exact hn trivial
  · intro hp next
    show ∃ b,kT.L1 fu _ next ((l.length:Nat):Int)=some b/\_
    unfold kT.L1 kT.k1
    dsimp only
    rw[if_neg ae]
    obtain⟨b,hb,ht⟩:=aAv (fu:=fu) (s:=s) h hl ae
    rw[hb,ai]
    by_cases hb1:b=true
    · rw[if_pos hb1]
      obtain⟨c,hc,ha⟩:=ahp (l:=l) h hs hr ae
      rw[hc,ai]
      by_cases hc1:c=true
      · rw[if_pos hc1]
        obtain⟨e,he,ht2⟩:=az3 (s:=s) h hd hf
        rw[he,ai]
        exact⟨_,rfl,λh0=>⟨ha hc1,ht hb1,ht2 h0⟩⟩
      · rw[if_neg hc1];exact⟨_,rfl,λh=>absurd h au⟩
    · rw[if_neg hb1];exact⟨_,rfl,λh=>absurd h au⟩
def MH(op:Int)(s:dh)(l:List aP):Int:=if op=59∨op=60 then 7 else if op=62 then s.fValue.fType else(vl l 0).fType
theorem awe(h:iZ op):jV fu ⟨op,s,l,1⟩=some (MH op s l):=by
  unfold iZ at h
  unfold jV jV.k2 jV.k3 jV.k1 MH;try unfold jn
  dsimp only
  iterate 11 rw[if_neg ae]
  by_cases h59:op=59
  · rw[if_pos h59,if_pos rfl,if_pos (.inl h59)]
  rw[if_neg h59]
  by_cases h60:op=60
  · rw[if_pos h60,if_pos rfl,if_pos (.inr h60)]
  rw[if_neg h60,if_neg ae,decide_eq_false ae,if_neg au,if_neg ae]
  by_cases h62:op=62
  · rw[if_pos h62,if_pos h62,if_neg ae]
  rw[if_neg h62,if_neg h62,if_neg ae,U0,ai,if_neg ae]
def nm(l:List aP)(i:Nat):List Int:=if(vl l i).fType=0 then []else(vl l i).fT.fI
theorem ET(i:Nat)(hd:(vl l i).fType≠0→HD fu (vl l i))(hf:5000<fu):jl fu ⟨op,s,l,1⟩ (i:Int)=some (nm l i):=by
  unfold jl nm
  rw[wY,ai]
  by_cases h0:(vl l i).fType=0
  · rw[if_neg (by simpa using h0),if_pos h0]
  · have hl:=qE (hd h0).chk
    rw[if_pos (by simpa using h0),if_neg h0,xQ,ai]
    unfold jl.W1
    refine(LX (N:=(vl l i).fT.fI.length) ae ae (E:=λj=>at? (vl l i).fT.fI j) (e:=gI (vl l i).fT.fI) (λk hk=>bY hk) (c:=λm=>some m) (L:=jl.L1 fu (vl l i)) (λnx m i=>rfl)).trans ?_
    rw[zL]
theorem avj(hd:(vl l 0).fType≠0->HD fu (vl l 0))(hf:5000<fu):jl fu ⟨op,s,l,1⟩ 0=some (nm l 0):=ET 0 hd hf
theorem zy(hd:(vl l 1).fType≠0->HD fu (vl l 1))(hf:5000<fu):jl fu ⟨op,s,l,1⟩ 1=some (nm l 1):=ET 1 hd hf
theorem avk(hd:(vl l 2).fType≠0->HD fu (vl l 2))(hf:5000<fu):jl fu ⟨op,s,l,1⟩ 2=some (nm l 2):=ET 2 hd hf
theorem avm(hd:(vl l 3).fType≠0->HD fu (vl l 3))(hf:5000<fu):jl fu ⟨op,s,l,1⟩ 3=some (nm l 3):=ET 3 hd hf
theorem avn(hd:(vl l 4).fType≠0->HD fu (vl l 4))(hf:5000<fu):jl fu ⟨op,s,l,1⟩ 4=some (nm l 4):=ET 4 hd hf
theorem aam:nS fu ⟨op,s,l,1⟩ 1=some (!(decide ((vl l 1).fType=0))):=wY 1
theorem aqk:nS fu ⟨op,s,l,1⟩ 3=some (!(decide ((vl l 3).fType=0))):=wY 3
theorem aql:nS fu ⟨op,s,l,1⟩ 4=some (!(decide ((vl l 4).fType=0))):=wY 4
theorem rE(i:Nat)(hd:(vl l i).fType≠0→HD fu (vl l i)):(nm l i).length≤4096:=by
  unfold nm
  split
  · simp
  · rename_i h0;exact(qE (hd h0).chk).2.2.1
theorem GN{k:Nat}(hr:(vl l 0).fDims.length≤8)(hk:iC s.fAxis (vl l 0).fDims.length=some (k:Int)):vw fu ⟨op,s,l,1⟩=some (k:Int):=by
  unfold vw Bv
  rw[iR,ai,ai,xU ae,ai,hk]
theorem AL{L:List Int}{n:Int}(hl:L.length≤1000000)(hf:L.length<fu):vz fu L n=some (L.any fun x=>decide (x<n)):=by
  unfold vz
  rw[cfI (p:=λy0=>BA fu y0 n) (q:=λx=>decide (x<n)) (λx _=>rfl) hl hf,ai]
end
end Go.Av
set_option linter.unusedSimpArgs false
namespace Go.Av
theorem jC{σ β:Type}{body:(σ→Option β)→σ→Option β}(N:Nat)(I:Nat→σ→Prop)(Q:Option β→Prop)
    (h: ∀ k s next,k<N->I k s->(∀ s',I (k+1) s'->Q (next s'))->Q (body next s)) (he: ∀ s next,I N s->Q (body next s)) {n:Nat} {s0:σ} (h0:I 0 s0) (hn:N<n):Q (aT body n s0):=by
  have : ∀ m k s,k≤N→N - k<m→I k s→Q (aT body m s):=by
    intro m
    induction m with
    |zero=>intro k s _ h;omega
    | succ m ih=>
      intro k s hk hm hi
      rw[dC]
      by_cases hlt:k<N
      · exact h k s _ hlt hi λs' hs'=>ih (k+1) s' ae ae hs'
      · obtain rfl:k=N:=ae
        exact he s _ hi
  exact this n 0 s0 ae ae h0
def bu(R:List Int->Prop)(r:Option (List (List Int)×Int)):Prop:= ∃ l' e,r=some (l',e)/\(e=0-> ∃ d,l'=[d]/\R d)
theorem bu.bad{R:List Int->Prop}{l:List (List Int)}{e:Int}(h:e≠0):bu R (some (l,e)):=⟨l,e,rfl,λh0=>absurd h0 h⟩
theorem bu.ok{R:List Int->Prop}{d:List Int}(h:R d):bu R (some ([d],0)):=⟨[d],0,rfl,λ_=>⟨d,rfl,h⟩⟩
theorem bu.pair{R:List Int→Prop}{r:Option (List (List Int)×Int)}(h:bu R r):bu R (r.bind fun x=>some (x.1,x.2)):=by
  obtain⟨l',e,rfl,hh⟩:=h
  exact⟨l',e,rfl,hh⟩
theorem bu.mono{R S:List Int→Prop}{r:Option (List (List Int)×Int)}(h:bu R r)(hs: ∀ d,R d→S d):bu S r:=by
  obtain⟨l',e,rfl,hh⟩:=h
  exact⟨l',e,rfl,λh0=>by obtain⟨d,a,b⟩:=hh h0;exact⟨d,a,hs d b⟩⟩
theorem Pq{n:Nat}: ∀ {p:List Int} {m:List Bool},(ja n p m true).2≠0
  |[],m=>by simp[ja]
  | a::p,m=>by
    unfold ja
    cases iC a n with
    |none=>simp
    |some k=>exact Pq
theorem Yf: ∀ {m:List Bool} {k:Nat},k<m.length→m.getD k false=false→(m.set k true).count false+1=m.count false
  |b::m,0,_,h=>by simp at h;subst h;simp
  | b::m,k+1,hk,h=>by
    have ih:=Yf (m:=m) (k:=k) (by simpa using hk) (by simpa using h)
    rw[List.set_cons_succ,List.count_cons,List.count_cons]
    omega
theorem VM{n:Nat}: ∀ {p:List Int} {m:List Bool},m.length=n→(ja n p m false).2=0→(ja n p m false).1.count false+p.length=m.count false
  |[],m,_,_=>by simp[ja]
  | a ::p,m,hm,h=>by
    unfold ja at h ⊢
    cases hk:iC a n with
    |none=>rw[hk]at h;simp at h
    | some k=>
      rw[hk]at h
      simp only at h ⊢
      have hr:=GL hk
      by_cases hb:m.getD k.toNat false=true
      · rw[hb]at h;exact absurd h Pq
      · have hb':m.getD k.toNat false=false:=by simpa using hb
        rw[hb',Bool.or_false]at h ⊢
        have ih:=VM (by simp[hm]) h
        have:=Yf (m:=m) (k:=k.toNat) ae hb'
        simp only[List.length_cons]
        omega
theorem ald{m:List Bool}{k:Nat}(h:m[k]? =some false):(m.take (k+1)).count false=(m.take k).count false+1∧(m.take k).count false<m.count false:=by
  have e:m.take (k+1)=m.take k++[false]:=by rw[List.take_add_one,h];rfl
  have h1:(m.take (k+1)).count false=(m.take k).count false+1:=by rw[e,List.count_append];simp
  refine⟨h1,?_⟩
  have:(m.take (k+1)).count false<=m.count false:=(List.take_sublist _ _).count_le _
  omega
theorem ale{m:List Bool}{k:Nat}(h:m[k]? =some true):(m.take (k+1)).count false=(m.take k).count false:=by
  rw[List.take_add_one,h,List.count_append];simp
section
variable {fu:Nat} {s:dh} {l:List aP}
theorem gK{R:List Int->Prop}:bu R ((fM fu).bind λx=>some (x.1,x.2)):=bu.bad au
theorem oV{R:List Int->Prop}{d:List Int}(h:R d):bu R ((lZ fu d).bind λx=>some (x.1,x.2)):=bu.ok h
theorem axx{op:Int}(hg:Good (vl l 0).fDims)(hd:(vl l 1).fType≠0→HD fu (vl l 1))(hf:6000<fu):bu (fun d=>d.length≤4096) (dM fu ⟨op,s,l,1⟩):=by
  have hn:=rE 1 hd
  unfold dM
  rw[iR,ai,zy hd ae,ai,zS hg ae,ai,dB]
  generalize nm l 1=L at hn
  generalize (vl l 0).fDims=X at hg
  have h8:=hg.1
  unfold dM.W3
  refine jC L.length (λk (st:Bool×List Int×Int×Int)=>st.2.1.length=L.length/\st.2.2.2=(k:Int)/\st.2.2.1<(k:Int)) _ ?_ ?_ ⟨rfl,rfl,by show(-1:Int)<((0:Nat):Int);decide⟩ ae
  · rintro k ⟨z,O,fr,i⟩ next hk ⟨h1,rfl,h3⟩ hx
    dsimp only at h1 h3 ⊢
    unfold dM.L3
    rw[if_pos ae,at?_get ae,ai,dL ae]
    by_cases c1:O[k]< -1
    · rw[if_pos c1];exact gK
    rw[if_neg c1]
    by_cases c2:O[k]= -1
    · rw[if_pos c2]
      by_cases c3:0<=fr
      · rw[if_pos c3];exact gK
      · rw[if_neg c3,if_neg ae]
        exact hx (z,O,(k:Int),((k+1:Nat):Int)) ⟨h1,rfl,by show(k:Int)<_;omega⟩
    rw[if_neg c2]
    by_cases c4:O[k]=0
    · rw [if_pos c4]
      by_cases c5:z=true
      · rw[if_pos c5];exact hx (true,O,fr,((k+1:Nat):Int)) ⟨h1,rfl,by show fr<_;omega⟩
      · rw[if_neg c5]
        by_cases c6:(X.length:Int)<=k
        · rw[if_pos c6];exact gK
        · rw[if_neg c6,at?_get ae,ai,aI ae]
          exact hx (false,O.set k _,fr,((k+1:Nat):Int)) ⟨by rw[List.length_set];exact h1,rfl,by show fr<_;omega⟩
    · rw[if_neg c4];exact hx (z,O,fr,((k+1:Nat):Int)) ⟨h1,rfl,by show fr<_;omega⟩
  · rintro ⟨z, O,fr,i⟩ next ⟨h1,rfl,h3⟩
    dsimp only at h1 h3 ⊢
    unfold dM.L3
    rw[if_neg ae]
    unfold dM.k1 dM.W2
    rw[dB]
    refine jC O.length (λk (st:Int×Int)=>st.2=(k:Int)) _ ?_ ?_ rfl ae
    · rintro k ⟨x30,i⟩ next hk rfl hx
      dsimp only
      unfold dM.L2
      rw[if_pos ae,at?_get hk,ai,dL ae]
      split
      · exact hx (x30,((k+1:Nat):Int)) rfl
      · split
        · exact hx (0,((k+1:Nat):Int)) rfl
        · exact hx (x30,((k+1:Nat):Int)) rfl
    · rintro ⟨x30,i⟩ next rfl
      dsimp only
      unfold dM.L2
      rw[if_neg ae]
      unfold dM.k2 dM.W1
      rw[dB]
      refine jC O.length (λk (st:Int×Int)=>st.2=(k:Int)) _ ?_ ?_ rfl ae
      · rintro k ⟨x19,i⟩ next hk rfl hx
        dsimp only
        unfold dM.L1
        rw[if_pos ae,at?_get hk,ai,dL ae]
        split
        · split
          · exact hx (x19,((k+1:Nat):Int)) rfl
          · split
            · split
              · exact gK
              · split
                · exact gK
                · exact hx (_,((k+1:Nat):Int)) rfl
            · split
              · exact gK
              · exact hx (_,((k+1:Nat):Int)) rfl
        · exact hx (x19,((k+1:Nat):Int)) rfl
      · rintro⟨x9,i⟩ next rfl
        dsimp only
        unfold dM.L1
        rw[if_neg ae]
        unfold dM.k3 dM.k4
        rw[dB]
        dsimp only
        by_cases c1:0<=fr
        · rw [if_pos c1]
          by_cases c2:x9=0
          · rw[if_pos c2];exact gK
          · rw[if_neg c2,aI c2]
            split
            · rw[aI ae]
              exact oV (by rw[List.length_set];omega)
            · exact gK
        · rw[if_neg c1]
          split
          · exact oV ae
          · exact gK
theorem azZ(hg:Good (vl l 0).fDims)(hd:(vl l 1).fType≠0→HD fu (vl l 1))(hn4: ∀ x ∈ nm l 1,x≤4096)(hf:6000<fu):
    bu (λd=>d.length=(vl l 0).fDims.length/\(nm l 1).length=(vl l 0).fDims.length/\ ∀ a,a<d.length->0<=gI (nm l 1) a/\gI d a=gI (nm l 1) a*gI (vl l 0).fDims a) (iT fu ⟨54,s,l,1⟩):=by
  have hn:=rE 1 hd
  unfold iT
  rw[iR,ai,zy hd ae,ai,dB]
  generalize nm l 1=L at hn hn4
  generalize (vl l 0).fDims=X at hg
  have h8:=hg.1
  rw[AL ae ae,ai]
  by_cases c1:(L.any λx=>decide (x<0))=true
  · rw[if_pos c1];exact gK
  rw[if_neg c1]
  have hpos: ∀ x ∈ L,0≤x:=fun x hx=>by
    rcases Int.lt_or_le x 0 with h|h
    · exact absurd (List.any_eq_true.2 ⟨x,hx,by simpa using h⟩) c1
    · exact h
  dsimp only
  rw[if_pos rfl]
  by_cases c2:(L.length:Int)=(X.length:Int)
  · rw [if_pos c2]
    unfold iT.k1
    dsimp only
    rw[if_neg au,dB]
    unfold iT.W1
    refine jC L.length (λk (st:List Int×Int)=>st.2=(k:Int)/\st.1.length=L.length/\ ∀ a,a<L.length->gI st.1 a=if a<k then gI L a*gI X a else gI L a) _ ?_ ?_ ⟨rfl,rfl,λa ha=>by simp⟩ ae
    · rintro k ⟨O,i⟩ next hk ⟨rfl,h1,h2⟩ hx
      dsimp only at h1 h2 ⊢
      unfold iT.L1
      have ho:=h2 k hk
      rw[if_neg (Nat.lt_irrefl k)]at ho
      have hL:=hpos _ (List.getElem_mem hk)
      have hL4:=hn4 _ (List.getElem_mem hk)
      have hX:=hg.2.1 _ (List.getElem_mem (show k<X.length by omega))
      rw[if_pos ae,bY ae,ai,bY ae,ai,aI ae,dL ae]
      rw[← cu hk]at hL hL4
      rw[← cu (show k<X.length by omega)]at hX
      have hm:gI O k*gI X k<=4096*4096:=by rw[ho];exact Int.mul_le_mul ae ae ae ae
      have hm0:0<=gI O k*gI X k:=by rw[ho];exact Int.mul_nonneg ae ae
      rw[bi ae ae]
      refine hx (_,((k+1:Nat):Int)) ⟨rfl,by rw[List.length_set];exact h1,λa ha=> ?_⟩
      have hset: ∀ (O:List Int) (c a:Nat) (x:Int),c<O.length→gI (O.set c x) a=if c=a then x else gI O a:=fun O c a x hc=>by
        unfold gI
        rw[List.getD_eq_getElem?_getD,List.getElem?_set,List.getD_eq_getElem?_getD]
        by_cases h:c=a
        · subst h;simp[hc]
        · simp[h]
      show gI (O.set k _) a=_
      rw[hset _ _ _ _ ae]
      by_cases hka:k=a
      · subst hka;rw[if_pos rfl,if_pos ae,ho]
      · rw[if_neg hka,h2 a ha]
        by_cases c:a<k
        · rw[if_pos c,if_pos ae]
        · rw[if_neg c,if_neg ae]
    · rintro⟨O,i⟩ next ⟨rfl,h1,h2⟩
      dsimp only at h1 h2 ⊢
      unfold iT.L1 iT.k2
      rw[if_neg ae]
      refine oV ⟨by omega,by omega,λa ha=> ?_⟩
      rw[h2 a ae,if_pos ae]
      refine⟨?_,rfl⟩
      rw[cu (show a<L.length by omega)]
      exact hpos _ (List.getElem_mem _)
  · rw[if_neg c2];exact gK
theorem adg{op:Int}(ho:op=56∨op=57)(hg:Good (vl l 0).fDims)(hd:(vl l 1).fType≠0→HD fu (vl l 1))(hf:6000<fu):bu (fun d=>d.length≤20) (jf fu ⟨op,s,l,1⟩):=by
  have hn:=rE 1 hd
  unfold jf
  rw[iR,ai,zy hd ae,ai,dB]
  have hh:=aam (fu:=fu) (op:=op) (s:=s) (l:=l)
  generalize nm l 1=L at hn
  generalize (vl l 0).fDims=X at hg
  have h8:=hg.1
  have key : ∀ r:Nat,r≤8→(op=57→r=X.length+L.length)→(op=56→r=X.length)→bu (fun d=>d.length≤20) (jf.k1 fu ⟨op,s,l,1⟩ X L (r:Int)):=fun r hr h57 h56=>by
    unfold jf.k1
    rw[NV hr ae ae,ai]
    by_cases h0:(ja r L (List.replicate r false) false).2=0
    · rw [if_pos h0,dB]
      have hm1:=Po (by simp) h0
      have hm2:=VM (by simp) h0
      rw[List.count_replicate_self]at hm2
      generalize ja r L (List.replicate r false) false=M at h0 hm1 hm2
      unfold jf.W1
      refine jC M.1.length (λk (st:List Int×List Int×Int)=>st.2.2=(k:Int)/\st.1.length<=k/\(op=57->st.2.1=X.drop ((M.1.take k).count false))/\(op=56->st.2.1=X)) _ ?_ ?_ ⟨rfl,by simp,λ_=>by simp,λ_=>rfl⟩ ae
      · rintro k ⟨O,D,i⟩ next hk ⟨rfl,h1,h2,h3⟩ hx
        dsimp only at h1 h2 h3 ⊢
        unfold jf.L1
        rw[if_pos ae,at?_get hk,ai,dL ae]
        dsimp only
        have hg1:M.1[k]? =some M.1[k]:=List.getElem?_eq_getElem hk
        by_cases qp:op=57
        · have h56': ¬ op=56:=ae
          rw[if_pos qp]
          have hD:=h2 qp
          by_cases cm:M.1[k]=true
          · rw[if_pos cm,aI ae]
            rw[cm]at hg1
            exact hx (O++[1],D,((k+1:Nat):Int)) ⟨rfl,by simp;omega,λ_=>by rw[ale hg1];exact hD,λh=>absurd h h56'⟩
          · have cm':M.1[k]=false:=by simpa using cm
            rw[cm']at hg1
            obtain⟨q1,q2⟩:=ald hg1
            have hr57:=h57 qp
            have hlt:(M.1.take k).count false<X.length:=ae
            rw[if_neg cm,hD,show(0:Int)=((0:Nat):Int)from rfl,at?_get (by simp;omega),ai,aI ae,aI (by simp;omega)]
            refine hx (O++[_],iW _ 1 _,((k+1:Nat):Int)) ⟨rfl,by simp;omega,λ_=> ?_,λh=>absurd h h56'⟩
            show iW _ 1 _=_
            rw[q1]
            unfold iW
            rw[List.drop_drop]
            exact List.take_of_length_le (by simp;omega)
        · have AP:op=56:=ae
          rw[if_neg qp]
          have hD:=h3 AP
          have hrx:=h56 AP
          rw[hh,ai,hD,at?_get ae]
          have nx: ∀ O',O'.length<=k+1->bu (λd=>d.length<=20) (next (O',X,((k+1:Nat):Int))):=λO' ho=>hx (O',X,((k+1:Nat):Int)) ⟨rfl,ho,λh=>absurd h qp,λ_=>rfl⟩
          split
          · split
            · rw[ai]
              split
              · exact nx O ae
              · exact gK
            · rw[ai,aI ae]
              exact nx _ (by simp;omega)
          · rw [ai]
            split
            · exact nx O ae
            · split
              · exact gK
              · rw[aI ae]
                exact nx _ (by simp;omega)
      · rintro⟨O,D,i⟩ next ⟨rfl,h1,h2,h3⟩
        dsimp only at h1 h2 h3 ⊢
        unfold jf.L1 jf.k2
        rw[if_neg ae]
        exact oV ae
    · rw[if_neg h0];exact gK
  dsimp only
  by_cases qp:op=57
  · rw[if_pos qp,bi ae ae]
    by_cases c8:(8:Int)<(X.length:Int)+(L.length:Int)
    · rw[if_pos c8];exact bu.bad au
    · rw[if_neg c8]
      exact key (X.length+L.length) ae (λ_=>rfl) (λh=>by omega)
  · rw[if_neg qp]
    exact key X.length h8 (λh=>absurd h qp) (λ_=>rfl)
theorem anx(hg:Good (vl l 0).fDims)(ha: -((vl l 0).fDims.length:Int)≤s.fAxis∧s.fAxis≤(vl l 0).fDims.length)(hf:6000<fu):bu (fun d=>d.length≤20) (iw fu ⟨58,s,l,1⟩):=by
  have h8:=hg.1
  unfold iw
  rw[iR,ai]
  dsimp only
  rw[if_pos rfl,dB]
  generalize (vl l 0).fDims=X at hg ha h8
  have key: ∀ k:Nat,k≤X.length→bu (fun d=>d.length≤20) (iw.k1 fu X (k:Int)):=fun k hk=>by
    unfold iw.k1 iw.k2
    have s1: ∀ a b:Nat,eF fu (iW X a b)=some (jP (iW X a b)):=fun a b=>by
      have:(iW X a b).length<=8:=by unfold iW;simp;omega
      exact uN (by unfold Short;omega) ae
    rw[aI ae,s1,ai,s1,ai,dB]
    split
    · split
      · exact oV (by simp)
      · exact bu.bad au
    · exact bu.bad au
  by_cases h0:s.fAxis<0
  · rw[if_pos h0,bi ae ae]
    have:=key (s.fAxis+X.length).toNat ae
    rwa[Int.toNat_of_nonneg ae]at this
  · rw[if_neg h0]
    have:=key s.fAxis.toNat ae
    rwa[Int.toNat_of_nonneg ae]at this
theorem ayU:bu (fun d=>d=[]) (iw fu ⟨60,s,l,1⟩):=by
  unfold iw
  rw[iR,ai]
  exact bu.ok rfl
theorem alc(hd:(vl l 0).fType≠0→HD fu (vl l 0))(hf:6000<fu):bu (fun d=>d.length≤4096) (iw fu ⟨62,s,l,1⟩):=by
  have hn:=rE 0 hd
  unfold iw
  rw[iR,ai]
  show bu _ ((jl fu ⟨62,s,l,1⟩ 0).bind _)
  rw[avj hd ae,ai,AL ae ae,ai]
  split
  · exact gK
  · exact oV hn
def holdV(n r:Int):Int:=bV 0 (iH (if n<0 then n+r else n) r)
theorem aap{n:Int}{r:Nat}(h1: -9223372036854775808≤n)(h2:n<9223372036854775808)(hr:r≤8):zf fu n (r:Int)=some (holdV n r):=by
  unfold zf holdV
  by_cases h0:n<0
  · rw[if_pos h0,if_pos h0,bi ae ae]
  · rw[if_neg h0,if_neg h0]
def uG(s:dh)(r:Nat):Int:=if s.fHasEnd=true then holdV s.fEnd r else r
theorem ayK(hr:(vl l 0).fDims.length≤8)(h1: -9223372036854775808≤s.fStart)(h2:s.fStart<9223372036854775808)(h3: -9223372036854775808≤s.fEnd)(h4:s.fEnd<9223372036854775808):
    bu (λd=>d=[bV 0 (uG s (vl l 0).fDims.length - holdV s.fStart (vl l 0).fDims.length)]) (iw fu ⟨59,s,l,1⟩):=by
  unfold iw
  rw[iR,ai]
  show bu _ ((BB fu s ((vl l 0).fDims.length:Int)).bind _)
  generalize (vl l 0).fDims.length=r at hr
  have oW: ∀ n:Int,0≤holdV n r∧holdV n r≤r:=fun n=>by
    have v1: ∀ a b:Int,bV a b=if b>a then b else a:=λ_ _=>rfl
    have v2: ∀ a b:Int,iH a b=if b<a then b else a:=λ_ _=>rfl
    unfold holdV
    rw[v1,v2]
    split <;> split <;> split <;> omega
  have a1:=oW s.fStart
  have a2:=oW s.fEnd
  have hs:BB fu s (r:Int)=some (holdV s.fStart r,uG s r):=by
    unfold BB uG
    rw[aap h1 h2 hr,aap h3 h4 hr]
    by_cases c:s.fHasEnd=true
    · rw[if_pos c,if_pos c];rfl
    · rw[if_neg c,if_neg c];rfl
  have a3:0≤uG s r∧uG s r≤r:=by
    unfold uG
    split
    · exact a2
    · omega
  rw[hs,ai]
  dsimp only
  rw[bi ae ae]
  exact oV rfl
end
end Go.Av
namespace Go.Av
theorem mM{L:List Int}{c a:Nat}{x:Int}(hc:c<L.length):gI (L.set c x) a=if c=a then x else gI L a:=by
  unfold gI
  rw[List.getD_eq_getElem?_getD,List.getElem?_set,List.getD_eq_getElem?_getD]
  by_cases h1:c=a
  · subst h1;simp[hc]
  · simp[h1]
theorem Fe{L:List Int}{c:Nat}(hc:c<L.length):L.set c (gI L c)=L:=by
  refine Ec (by simp) λk hk=> ?_
  rw[mM hc]
  split
  · rename_i h;rw[h]
  · rfl
theorem Uj: ∀ {d:List Int} {k:Nat} {y:Int},k<d.length→aO (d.set k y)=y*aO (d.set k 1)
  |e::d,0,y,hk=>by simp only[List.set_cons_zero,aO];rw[Int.one_mul]
  | e::d,k+1,y,hk=>by
    have ih:=Uj (d:=d) (k:=k) (y:=y) (by simpa using hk)
    simp only[List.set_cons_succ,aO]
    rw[ih,← Int.mul_assoc,← Int.mul_assoc,Int.mul_comm e y]
theorem adn: ∀ {a b:List Int},jH (a++b)=jH a+jH b
  |[],b=>by simp[jH]
  | x::a,b=>by
    have ih:=adn (a:=a) (b:=b)
    simp only[List.cons_append,jH,ih];omega
def sA(l:List Int)(j:Nat):Int:=jH (l.take j)
theorem Nb{l:List Int}:sA l 0=0:=rfl
theorem xI{l:List Int}{j:Nat}(h:j<l.length):sA l (j+1)=sA l j+gI l j:=by
  unfold sA
  rw[List.take_succ_eq_append_getElem h,adn,cu h]
  simp[jH]
theorem ax1{y:Int}{l:List Int}{j:Nat}:sA (y::l) (j+1)=y+sA l j:=rfl
theorem ac6{l:List Int}:sA l l.length=jH l:=by unfold sA;rw[List.take_length]
theorem ac7{l:List Int}(h: ∀ y ∈ l,0≤y): ∀ j,j≤l.length→0≤sA l j
  |0,_=>by simp[Nb]
  | j+1,hj=>by
    have ih:=ac7 h j ae
    have:=h l[j] (List.getElem_mem _)
    rw[xI ae,cu ae];omega
theorem Uy{l:List Int}(h: ∀ y ∈ l,0≤y){j:Nat}: ∀ i,j≤i→i≤l.length→sA l j≤sA l i
  | 0,h1,_=>by
    have:j=0:=ae
    subst this;omega
  | i +1,h1,h2=>by
    by_cases e:j=i+1
    · subst e;omega
    · have ih:=Uy h (j:=j) i ae ae
      have:=h l[i] (List.getElem_mem _)
      rw[xI ae,cu ae];omega
def tP:List Int→Int→Nat
  |[],_=>0
  |y::l,x=>if x<y then 0 else tP l (x - y)+1
theorem ady: ∀ {l:List Int} {x:Int},(∀ y ∈ l,0≤y)→0≤x→x<jH l→tP l x<l.length∧sA l (tP l x)≤x∧x<sA l (tP l x)+gI l (tP l x)
  |[],x,_,h0,h1=>by simp[jH]at h1;omega
  | y ::l,x,h,h0,h1=>by
    unfold tP
    by_cases hx:x<y
    · rw[if_pos hx]
      simp[Nb,gI];omega
    · rw[if_neg hx]
      obtain⟨a,b,c⟩:=ady (l:=l) (x:=x - y) (λz hz=>h z (by simp[hz])) ae (by simp only[jH]at h1;omega)
      rw[ax1]
      have:gI (y::l) (tP l (x - y)+1)=gI l (tP l (x - y)):=by simp[gI]
      rw[this]
      simp only[List.length_cons]
      omega
structure Ag (d l:List Int) (k:Nat):Prop where
  gd:Good d
  hk:k<d.length
  nn: ∀ y ∈ l,0<=y
  sum:jH l=gI d k
  l1:1<=l.length
  l2:l.length<=64
def dP(d l:List Int)(k j:Nat):List Int:=d.set k (gI l j)
theorem ZB{d l:List Int}{k j:Nat}:(dP d l k j).length=d.length:=by simp[dP]
theorem alD{d l:List Int}{k j a:Nat}(h:k<d.length):gI (dP d l k j) a=if k=a then gI l j else gI d a:=mM h
def rP(d:List Int)(k:Nat):Int:=aO (d.set k 1)
theorem acX{d:List Int}{k:Nat}{y:Int}(h:uM d)(hy:0≤y∧y≤4096):uM (d.set k y):=fun x hx=>by
  rcases List.mem_or_eq_of_mem_set hx with h1|h1
  · exact h x h1
  · subst h1;exact hy
theorem axn{d:List Int}{k:Nat}(h:uM d):0<=rP d k:=uB (acX h ae)
theorem awH{d:List Int}{k:Nat}(hk:k<d.length):aO d=gI d k*rP d k:=by
  conv=>lhs;rw[← Fe hk]
  exact Uj hk
theorem awF{d l:List Int}{k j:Nat}(hk:k<d.length):aO (dP d l k j)=gI l j*rP d k:=Uj hk
section
variable {d l:List Int} {k:Nat}
theorem Ag.row(h:Ag d l k){j:Nat}(hj:j<l.length):0≤gI l j∧0≤sA l j∧sA l j+gI l j≤gI d k∧gI d k≤4096:=by
  have h1:=h.nn l[j] (List.getElem_mem _)
  have h2:=ac7 h.nn j ae
  have h3:=Uy h.nn (j:=j+1) l.length ae (Nat.le_refl _)
  rw[xI hj,ac6,h.sum]at h3
  have hk:=h.hk
  have h4:=(h.gd.2.1 d[k] (List.getElem_mem hk)).2
  rw[← cu hk]at h4
  rw[← cu hj]at h1
  omega
theorem Ag.good(h:Ag d l k){j:Nat}(hj:j<l.length):Good (dP d l k j):=by
  obtain⟨a,b,c,e⟩:=h.row hj
  refine⟨by rw[ZB];exact h.gd.1,acX h.gd.2.1 ae,?_⟩
  rw[awF h.hk]
  have h1:=axn (k:=k) h.gd.2.1
  have h2:gI l j*rP d k<=gI d k*rP d k:=Int.mul_le_mul_of_nonneg_right ae h1
  have h3:=h.gd.2.2
  rw[awH h.hk]at h3
  omega
theorem Ag.pos(h:Ag d l k){j:Nat}(hj:j<l.length){m:Int}(h0:0≤m)(h1:m<aO (dP d l k j)): ∀ x ∈ d,1≤x:=by
  have hp:=Ui (h.good hj) ae
  obtain⟨a,b,c,e⟩:=h.row hj
  refine λx hx=> ?_
  obtain⟨i,hi,rfl⟩:=List.getElem_of_mem hx
  have hi2:i<(dP d l k j).length:=by rw[ZB];exact hi
  have h2:=hp (dP d l k j)[i] (List.getElem_mem hi2)
  rw[← cu,alD h.hk]at h2
  rw[← cu hi]
  by_cases e1:k=i
  · subst e1;rw[if_pos rfl]at h2;omega
  · rw[if_neg e1]at h2;exact h2
end
end Go.Av
set_option linter.unusedSimpArgs false
namespace Go.Av
theorem ad7{fu:Nat}{a b c:List Int}(hl:a.length+b.length+c.length≤1000):dn (fu+4) [a,b,c]=some (a++b++c):=by
  have w0:wk .i64 (0+1)=1:=rfl
  have w1:wk .i64 (1+1)=2:=rfl
  have w2:wk .i64 (2+1)=3:=rfl
  have g0:at? [a,b,c] 0=some a:=rfl
  have g1:at? [a,b,c] 1=some b:=rfl
  have g2:at? [a,b,c] 2=some c:=rfl
  have hW1:dn.W1 (fu+4) [a,b,c] [] 0=some (a++b++c):=by
    unfold dn.W1
    rw[dC]
    show dn.L1 (fu+4) [a,b,c] _ [] 0=_
    rw[dn.L1,if_pos (by simp),g0,ai,aI (by simp;omega),w0,dC]
    show dn.L1 (fu+4) [a,b,c] _ ([]++a) 1=_
    rw[dn.L1,if_pos (by simp),g1,ai,aI (by simp;omega),w1,dC]
    show dn.L1 (fu+4) [a,b,c] _ ([]++a++b) 2=_
    rw[dn.L1,if_pos (by simp),g2,ai,aI (by simp;omega),w2,dC]
    show dn.L1 (fu+4) [a,b,c] _ ([]++a++b++c) 3=_
    rw[dn.L1,if_neg (by simp),List.nil_append]
  have hW2:dn.W2 (fu+4) [a,b,c] [] 0=some (a++b++c):=by
    unfold dn.W2
    rw[dC]
    show dn.L2 (fu+4) [a,b,c] _ [] 0=_
    rw[dn.L2,if_pos (by simp),g0,ai,aI (by simp;omega),w0,dC]
    show dn.L2 (fu+4) [a,b,c] _ ([]++a) 1=_
    rw[dn.L2,if_pos (by simp),g1,ai,aI (by simp;omega),w1,dC]
    show dn.L2 (fu+4) [a,b,c] _ ([]++a++b) 2=_
    rw[dn.L2,if_pos (by simp),g2,ai,aI (by simp;omega),w2,dC]
    show dn.L2 (fu+4) [a,b,c] _ ([]++a++b++c) 3=_
    rw[dn.L2,if_neg (by simp),List.nil_append]
  have hk: ∀ n:Nat,n≤1000→dn.k1 (fu+4) [a,b,c] (n:Int)=some (a++b++c):=fun n hn=>by
    unfold dn.k1 jn
    rw[if_neg ae]
    unfold dn.k2
    have e0:wk .i64 0=0:=rfl
    rw[e0,bi (x:=(n:Int) - 0) ae ae]
    by_cases h:0<(n:Int) - 0
    · rw[if_pos h,aI ae,aI ae,hW1]
    · rw[if_neg h,hW2]
  unfold dn jn dn.W3
  rw[dC]
  show dn.L3 (fu+4) [a,b,c] _ 0 0=_
  have e1:wk .i64 (0+(a.length:Int))=(a.length:Int):=by rw[bi ae ae];omega
  have e2:wk .i64 ((a.length:Int)+(b.length:Int))=((a.length+b.length:Nat):Int):=by rw[bi ae ae];omega
  have e3:wk .i64 (((a.length+b.length:Nat):Int)+(c.length:Int))=((a.length+b.length+c.length:Nat):Int):=by rw[bi ae ae];omega
  rw[dn.L3,if_pos (by simp),g0,ai,e1,if_neg ae,w0,dC]
  show dn.L3 (fu+4) [a,b,c] _ (a.length:Int) 1=_
  rw[dn.L3,if_pos (by simp),g1,ai,e2,if_neg ae,w1,dC]
  show dn.L3 (fu+4) [a,b,c] _ ((a.length+b.length:Nat):Int) 2=_
  rw[dn.L3,if_pos (by simp),g2,ai,e3,if_neg ae,w2,dC]
  show dn.L3 (fu+4) [a,b,c] _ ((a.length+b.length+c.length:Nat):Int) 3=_
  rw[dn.L3,if_neg (by simp)]
  exact hk _ ae
section
variable {fu:Nat} {s:dh} {l:List aP}
theorem apd{k:Nat}(hg:Good (vl l 0).fDims)(hgy:Good (vl l 1).fDims)(hk:iC s.fAxis (vl l 0).fDims.length=some (k:Int))(hkl:k<(vl l 0).fDims.length)(hf:6000<fu):
    bu (λd=>d=(vl l 0).fDims.take k++(vl l 1).fDims++(vl l 0).fDims.drop (k+1)) (dA fu ⟨50,s,l,1⟩):=by
  have ha:=GN (fu:=fu) (op:=50) (s:=s) (l:=l) hg.1 hk
  have hd1:=JM (fu:=fu) (op:=50) (s:=s) (l:=l)
  unfold dA
  rw[iR,ai]
  show bu _ ((vw fu ⟨50,s,l,1⟩).bind _)
  rw[ha,ai,hd1]
  generalize (vl l 0).fDims=X at hg hk hkl
  generalize (vl l 1).fDims=Y at hgy
  have h8:=hg.1
  have h9:=hgy.1
  obtain⟨q,rfl⟩: ∃ q,fu=q+4:=⟨fu - 4,by omega⟩
  have e1:iW X 0 k=X.take k:=by unfold iW;simp
  have e2:iW X (k+1) X.length=X.drop (k+1):=by unfold iW;exact List.take_of_length_le (by simp)
  rw[aI ae,ai,bi ae ae,aI ae,show((k:Int)+1).toNat=k+1 by omega,Int.toNat_natCast,e1,e2,ad7 (by simp;omega),ai]
  exact oV rfl
def Fits(x y:List Int)(k:Nat):Prop:=x.length=y.length/\ ∀ i,i<x.length->i≠k->gI y i<=gI x i
theorem ab8{op:Int}{k:Nat}{d:List Int}(hr:(vl l 0).fDims.length≤8)(hk:iC s.fAxis (vl l 0).fDims.length=some (k:Int))(hf:6000<fu):
    bu (λe=>e=d/\Fits (vl l 0).fDims (vl l 1).fDims k) (lG fu ⟨op,s,l,1⟩ d):=by
  have ha:=GN (fu:=fu) (op:=op) (s:=s) (l:=l) hr hk
  unfold lG
  rw[iR,ai,JM,ai]
  generalize (vl l 0).fDims=X at hr hk
  generalize (vl l 1).fDims=Y
  by_cases c:(X.length:Int)=(Y.length:Int)
  · rw [if_pos c,dB]
    unfold lG.W1
    refine jC X.length (λk' (i:Int)=>i=(k':Int)/\ ∀ a,a<k'->a≠k->gI Y a<=gI X a) _ ?_ ?_ ⟨rfl,λa h=>by omega⟩ ae
    · rintro k' i next hk' ⟨rfl,hp⟩ hx
      unfold lG.L1
      rw[if_pos ae,ha,ai,dL ae]
      have step:(k'≠k→gI Y k'≤gI X k')→bu (fun e=>e=d∧Fits X Y k) (next ((k'+1:Nat):Int)):=fun h=>hx _ ⟨rfl,fun a ha hne=>by
        by_cases e:a=k'
        · subst e;exact h hne
        · exact hp a ae hne⟩
      by_cases e:(k':Int)=(k:Int)
      · rw[if_pos e];exact step λh=>absurd ae h
      · rw[if_neg e,bY ae,ai,bY hk',ai]
        by_cases c2:gI X k'<gI Y k'
        · rw[if_pos c2];exact gK
        · rw[if_neg c2];exact step λ_=>by omega
    · rintro i next ⟨rfl,hp⟩
      unfold lG.L1 lG.k1
      rw[if_neg ae]
      exact oV ⟨rfl,by omega,hp⟩
  · rw[if_neg c];exact gK
theorem apg{k:Nat}(hr:(vl l 0).fDims.length≤8)(hk:iC s.fAxis (vl l 0).fDims.length=some (k:Int))(hf:6000<fu):
    bu (λd=>d=(vl l 1).fDims/\Fits (vl l 0).fDims (vl l 1).fDims k) (dA fu ⟨51,s,l,1⟩):=by
  unfold dA
  rw[iR,ai]
  show bu _ ((jk fu ⟨51,s,l,1⟩ 1).bind _)
  rw[JM,ai]
  exact(ab8 hr hk hf).pair
theorem ayB{k:Nat}(hr:(vl l 0).fDims.length≤8)(hr1:(vl l 1).fDims.length≤8)(hk:iC s.fAxis (vl l 0).fDims.length=some (k:Int))(hf:6000<fu):
    bu (λd=>d=(vl l 0).fDims/\Fits (vl l 0).fDims (vl l 1).fDims k/\(vl l 2).fDims=(vl l 1).fDims) (dA fu ⟨52,s,l,1⟩):=by
  unfold dA
  rw[iR,ai]
  show bu _ ((jk fu ⟨52,s,l,1⟩ 1).bind _)
  rw[JM,ai,ZE,ai,NW (by unfold Short;omega) ae,ai]
  by_cases c:(vl l 1).fDims=(vl l 2).fDims
  · rw[if_pos (by simpa using c)]
    exact bu.mono (ab8 hr hk hf).pair λd h=>⟨h.1,h.2,c.symm⟩
  · rw[if_neg (by simpa using c)];exact gK
theorem azf{k:Nat}(hg:Good (vl l 0).fDims)(hd:(vl l 1).fType≠0→HD fu (vl l 1))(hn4: ∀ x ∈ nm l 1,x≤4096)(hk:iC s.fAxis (vl l 0).fDims.length=some (k:Int))(hkl:k<(vl l 0).fDims.length)(hf:6000<fu):
    bu (λd=>d=(vl l 0).fDims) (eQ fu ⟨48,s,l,1⟩):=by
  have ha:=GN (fu:=fu) (op:=48) (s:=s) (l:=l) hg.1 hk
  have hn:=rE 1 hd
  unfold eQ
  rw[iR,ai,ha,ai,zy hd ae,ai,aam,ai]
  generalize nm l 1=L at hn hn4
  generalize (vl l 0).fDims=X at hg hk hkl
  have h8:=hg.1
  have hX:0<=gI X k/\gI X k<=4096:=by have:=hg.2.1 _ (List.getElem_mem hkl);rw[← cu hkl]at this;exact this
  have hcl:slices_Clone_int fu X=some X:=rV (vk hg)
  dsimp only
  have fin: ∀ y:Int,y=gI X k->X.set k y=X:=λy hy=>by rw[hy,Fe hkl]
  by_cases h0:(vl l 1).fType=0
  · rw[if_neg (by simpa using h0),bY hkl,ai,aI au,if_pos (by simp)]
    rw[show Int.tdiv (gI X k) 1=gI X k by simp,bi ae ae]
    unfold Fh
    rw[aI ⟨rfl,rfl⟩,ai,dB,if_pos (show((([gI X k]:List Int).length:Nat):Int)=1 from rfl),AL (by simp) (by simp;omega),ai]
    split
    · exact gK
    · unfold eQ.k3 eQ.W2
      rw[dB]
      obtain⟨q,hq⟩: ∃ q,fu=q+2:=⟨fu - 2,by omega⟩
      rw[show fu=(q+1)+1 from hq,dC]
      show bu _ (eQ.L2 _ _ _ _ _ _ _ _ (0:Int))
      rw[← hq]
      unfold eQ.L2
      rw[if_pos (by simp),show at? [gI X k] (0:Int)=some (gI X k)from rfl,ai,hcl,ai,aI ae,aI (by simp),Int.toNat_natCast,fin _ rfl,show wk .i64 (0+gI X k)=gI X k by rw[Int.zero_add,bi ae ae],show wk .i64 ((0:Int)+1)=1 by decide]
      show bu _ (aT _ (q+1) _)
      rw[dC]
      dsimp only
      unfold eQ.k4
      rw[if_neg (by simp),if_pos rfl]
      exact bu.ok rfl
  · rw [if_pos (by simpa using h0),dB]
    by_cases c1:(L.length:Int)=1
    · rw [if_pos c1,AL ae ae,ai]
      by_cases cb:(L.any λx=>decide (x<0))=true
      · rw[if_pos cb];exact gK
      · rw [if_neg cb]
        match L,c1,hn4,cb with
        | [y],_,hn4,cb=>
          have y4:=hn4 y (by simp)
          have y0:0<=y:=by simpa using cb
          unfold eQ.k1 eQ.W1
          rw[dB]
          obtain⟨q,hq⟩: ∃ q,fu=q+2:=⟨fu - 2,by omega⟩
          rw[show fu=(q+1)+1 from hq,dC]
          show bu _ (eQ.L1 _ _ _ _ _ _ _ (0:Int))
          rw[← hq]
          unfold eQ.L1
          rw[if_pos (by simp),show at? [y] (0:Int)=some y from rfl,ai,hcl,ai,aI ae,aI (by simp),Int.toNat_natCast,show wk .i64 ((0:Int)+1)=1 by decide]
          show bu _ (aT _ (q+1) _)
          rw[dC]
          dsimp only
          unfold eQ.k2
          rw[if_neg (by simp),bY hkl,ai]
          rw[show wk .i64 (0+y)=y by rw[Int.zero_add,bi ae ae]]
          by_cases c2:y=gI X k
          · rw[if_pos c2,List.nil_append,fin y c2]
            exact bu.ok rfl
          · rw[if_neg c2];exact gK
    · rw[if_neg c1];exact gK
end
end Go.Av
