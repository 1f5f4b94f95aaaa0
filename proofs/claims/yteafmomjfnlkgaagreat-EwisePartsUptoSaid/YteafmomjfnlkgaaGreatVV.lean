/- Layer 4, shapes: what the plain functions come to. Strides, indices, offsets. Copies. Lists of numbers alike. Shapes brought together. Indices of a place. From a place to where it stands in a smaller shape; ShapeBoth: the law over the plain functions. Layer 5: sameness, whether a tensor may be, copies whose no numbers are one. Any tensors: as constant values; whether each may be. New tensors, elements picked. All operators element by element: the types and the shape of the output, or that it is refused. Floats: a product and a sum always come to something. Floats: a quotient always comes to something. Floats: sums, products, the lesser, the greater and sameness do not hang on the order. Floats: what is left by another one, and powers, always come to something. Floats: what is left by another one always comes to something. Floats: what always comes to something (2). All operators element by element: inputs by number, places, steps of a loop that fills a list. ewise.Do: one step of its loop, for any operator. Elements picked. All operators element by element: what each step writes, the loops of Do and of Part. All operators element by element: the inputs by their types; what each step writes, for any operator; divisors. All operators element by element: what Do and what Part come to. Sameness of two tensors. Conditions: those that each names. -/
import Derived.Test.YteafmomjfnlkgaaGreatQS
import Derived.Test.YteafmomjfnlkgaaGreatPl
set_option linter.unusedVariables false
namespace Go.Av
def wJ(p:Int→Bool):Nat→List Int→Int
  |_,[]=> -1
  |i,x::l=>if p x=true then i else wJ p (i+1) l
theorem Zo(p:Int→Bool): ∀ (l:List Int) (i:Nat),decide (0≤wJ p i l)=l.any p
  |[],i=>rfl
  | x::l,i=>by
    simp only[wJ,List.any_cons]
    by_cases h:p x=true
    · simp[h]
    · simp[h,← Zo p l (i+1)]
def Short(l:List Int):Prop:=l.length<=140737488355328
theorem gU{k:Nat}(h:k<=140737488355328):wk .i64 ((k:Int)+1)=((k+1:Nat):Int):=by rw[bP (by omega) (by omega)];omega
theorem aKI{fu:Nat}{l:List Int}{p:Int→Option Bool}{q:Int→Bool}(hp: ∀ x,p x=some (q x))(hl:Short l)(hf:l.length<fu):lY fu l p=some (wJ q 0 l):=by
  unfold lY lY.W1
  refine vY (λ(i:Int)=>some (wJ q i.toNat (l.drop i.toNat))) (λi=>0<=i/\i<=l.length) (λi=>l.length - i.toNat) ?_ fu 0 (by omega) (by simp;omega)
  rintro i ⟨h0,h1⟩ next hn
  obtain⟨k,rfl⟩:=Int.eq_ofNat_of_zero_le h0
  unfold lY.L1
  simp only[Int.toNat_natCast]
  by_cases hk:k<l.length
  · rw[if_pos (by omega),at?_get hk,ob_some,hp,ob_some,List.drop_eq_getElem_cons hk]
    simp only[wJ]
    by_cases hq:q l[k]=true
    · rw[if_pos hq,if_pos hq]
    · rw[if_neg hq,if_neg hq,gU (by unfold Short at hl;omega),hn _ (by omega) (by simp;omega)]
      simp
  · rw[if_neg (by omega),List.drop_of_length_le (by omega)];rfl
theorem aap{fu:Nat}{l:List Int}{p:Int→Option Bool}{q:Int→Bool}(hp: ∀ x,p x=some (q x))(hl:Short l)(hf:l.length<fu):oM fu l p=some (l.any q):=by
  unfold oM
  rw[aKI hp hl hf,ob_some,Zo]
theorem avA{fu:Nat}{l:List Int}{x:Int}(hl:Short l)(hf:l.length<fu):slices_Index_int fu l x=some (wJ (fun y=>decide (x=y)) 0 l):=by
  unfold slices_Index_int slices_Index_int.W1
  refine vY (λ(i:Int)=>some (wJ (λy=>decide (x=y)) i.toNat (l.drop i.toNat))) (λi=>0<=i/\i<=l.length) (λi=>l.length - i.toNat) ?_ fu 0 (by omega) (by simp;omega)
  rintro i ⟨h0,h1⟩ next hn
  obtain⟨k,rfl⟩:=Int.eq_ofNat_of_zero_le h0
  unfold slices_Index_int.L1
  simp only[Int.toNat_natCast]
  by_cases hk:k<l.length
  · rw[if_pos (by omega),at?_get hk,ob_some,List.drop_eq_getElem_cons hk]
    simp only[wJ]
    by_cases hq:x=l[k]
    · rw[if_pos hq,if_pos (by simpa using hq)]
    · rw[if_neg hq,if_neg (by simpa using hq),gU (by unfold Short at hl;omega),hn _ (by omega) (by simp;omega)]
      simp
  · rw[if_neg (by omega),List.drop_of_length_le (by omega)];rfl
theorem aMG{fu:Nat}{l:List Int}{x:Int}(hl:Short l)(hf:l.length<fu):slices_Contains_int fu l x=some (l.any fun y=>decide (x=y)):=by
  unfold slices_Contains_int
  rw[avA hl hf,ob_some,Zo]
def ah:List Int→Int
  |[]=>1
  |x::l=>x*ah l
def I7(l:List Int):Prop:= ∀ x ∈ l,0<=x/\x<=4096
def Good(l:List Int):Prop:=l.length<=8/\I7 l/\ah l<=4096
instance (l:List Int):Decidable (I7 l):=by unfold I7;infer_instance
instance (l:List Int):Decidable (Good l):=by unfold Good;infer_instance
def lS(l:List Int):Int:=if l.any (λx=>decide (x<0))=true then 1 else 4
def mD(l:List Int):Int×Int:=if Good l then(ah l,0)else(0,lS l)
theorem nO(l:List Int):lS l≠0:=by unfold lS;split <;> decide
theorem kQ: ∀ {l:List Int},I7 l→0≤ah l
  |[],_=>by decide
  |x::l,h=>Int.mul_nonneg (h x (by simp)).1 (kQ λy hy=>h y (by simp[hy]))
theorem Hq: ∀ {l:List Int},(∀ x ∈ l,1≤x)→1≤ah l
  |[],_=>by decide
  | x::l,h=>by
    have h1:=h x (by simp)
    have h2:=Hq (l:=l) λy hy=>h y (by simp[hy])
    have:=Int.mul_le_mul h1 h2 (by decide) (by omega)
    simpa[ah]using this
theorem LU: ∀ {l:List Int},0 ∈ l→ah l=0
  | x::l,h=>by
    rcases List.mem_cons.1 h with rfl|h
    · simp[ah]
    · simp[ah,LU h]
theorem agp{m d:Int}(hm:1≤m)(hd:0≤d):(Int.tdiv 4096 m<d) ↔ 4096<m*d:=by
  rw[Int.tdiv_eq_ediv_of_nonneg (by decide)]
  constructor
  · intro h
    have:=Int.lt_mul_of_ediv_lt (by omega:0<m) h
    rwa[Int.mul_comm]at this
  · intro h
    exact Int.ediv_lt_of_lt_mul (by omega) (by rwa[Int.mul_comm])
theorem aGL{fu:Nat}{l:List Int}(hp: ∀ x ∈ l,1≤x∧x≤4096)(hl:l.length≤8)(hf:l.length<fu):eU.W1 fu l 1 0=some (if ah l≤4096 then(ah l,0)else(0,4)):=by
  unfold eU.W1
  refine(vY (λ(s:Int×Int)=>some (if s.1*ah (l.drop s.2.toNat)<=4096 then(s.1*ah (l.drop s.2.toNat),0)else(0,4))) (λs=>0<=s.2/\s.2<=l.length/\1<=s.1/\s.1<=4096) (λs=>l.length - s.2.toNat) ?_ fu (1,0) (by simp) (by simp;omega)).trans (by simp)
  rintro⟨m,i⟩ ⟨h0,h1,h2,h3⟩ next hn
  simp only at h0 h1 h2 h3 hn ⊢
  obtain⟨k,rfl⟩:=Int.eq_ofNat_of_zero_le h0
  unfold eU.L1
  simp only[Int.toNat_natCast]
  by_cases hk:k<l.length
  · obtain⟨q1,q2⟩:=hp _ (List.getElem_mem hk)
    have t0:0≤Int.tdiv 4096 m∧Int.tdiv 4096 m≤4096:=by
      rw[Int.tdiv_eq_ediv_of_nonneg (by decide)]
      exact⟨Int.ediv_nonneg (by decide) (by omega),Int.ediv_le_self _ (by decide)⟩
    rw[if_pos (by omega),at?_get hk,ob_some,aU (by omega),bP (by omega) (by omega),List.drop_eq_getElem_cons hk]
    have hpos:1<=ah (l.drop (k+1)):=Hq λx hx=>(hp x (List.mem_of_mem_drop hx)).1
    have hge:1<=m*l[k]:=by have:=Int.mul_le_mul h2 q1 (by decide) (by omega);simpa using this
    simp only[ah,← Int.mul_assoc]
    by_cases hd:Int.tdiv 4096 m<l[k]
    · rw[if_pos hd]
      rw[agp h2 (by omega)]at hd
      have:m*l[k]*1<=m*l[k]*ah (l.drop (k+1)):=Int.mul_le_mul_of_nonneg_left hpos (by omega)
      rw[if_neg (by omega)]
    · rw[if_neg hd]
      rw[agp h2 (by omega)]at hd
      rw[bP (by omega) (by omega),gU (by omega),hn (m*l[k],((k+1:Nat):Int)) ⟨by simp only[];omega,by simp only[];omega,hge,by simp only[];omega⟩ (by simp;omega)]
      simp
  · rw[if_neg (by omega),List.drop_of_length_le (by omega)]
    simp only[ah,Int.mul_one]
    rw[if_pos h3]
theorem sU{fu:Nat}{l:List Int}(hl:Short l)(hf:l.length<fu):eU fu l=some (mD l):=by
  unfold eU;try unfold jn
  rw[aap (p:=λy0=>yH fu y0) (q:=λx=>decide (x<0)) (λx=>rfl) hl hf,ob_some]
  by_cases h1:l.any (λx=>decide (x<0))=true
  · rw[if_pos h1]
    have hg: ¬ Good l:=fun hg=>by
      obtain⟨x,hx,hx2⟩:=List.any_eq_true.1 h1
      have:=(hg.2.1 x hx).1
      simp at hx2;omega
    simp only[mD,if_neg hg,lS,if_pos h1]
  rw[if_neg h1]
  have he:lS l=4:=by simp only[lS,if_neg h1]
  by_cases h2:8<(l.length:Int)
  · rw[if_pos h2]
    have hg: ¬ Good l:=λhg=>by have:=hg.1;omega
    simp only[mD,if_neg hg,he]
  rw[if_neg h2,aap (p:=λy0=>zu fu y0) (q:=λx=>decide (4096<x)) (λx=>rfl) hl hf,ob_some]
  by_cases h3:l.any (λx=>decide (4096<x))=true
  · rw[if_pos h3]
    have hg: ¬ Good l:=fun hg=>by
      obtain⟨x,hx,hx2⟩:=List.any_eq_true.1 h3
      have:=(hg.2.1 x hx).2
      simp at hx2;omega
    simp only[mD,if_neg hg,he]
  rw[if_neg h3]
  have hr:I7 l:=fun x hx=>by
    simp only[List.any_eq_true,decide_eq_true_eq,not_exists,not_and]at h1 h3
    have:=h1 x hx;have:=h3 x hx;omega
  unfold eU.k1
  rw[aMG hl hf,ob_some]
  by_cases h4:(l.any λy=>decide ((0:Int)=y))=true
  · rw[if_pos h4]
    have hz:(0:Int) ∈ l:=by
      obtain⟨x,hx,hx2⟩:=List.any_eq_true.1 h4
      simp at hx2;subst hx2;exact hx
    have hg:Good l:=⟨by omega,hr,by rw[LU hz];decide⟩
    simp only[mD,if_pos hg,LU hz]
  rw[if_neg h4]
  have hp: ∀ x ∈ l,1≤x∧x≤4096:=fun x hx=>by
    have:=hr x hx
    simp only[List.any_eq_true,decide_eq_true_eq,not_exists,not_and]at h4
    have:=h4 x hx;omega
  rw[aGL hp (by omega) hf]
  by_cases h5:ah l<=4096
  · have hg:Good l:=⟨by omega,hr,h5⟩
    simp only[mD,if_pos hg,if_pos h5]
  · have hg: ¬ Good l:=fun hg=>h5 hg.2.2
    simp only[mD,if_neg hg,if_neg h5,he]
end Go.Av
namespace Go.Av
def oU:List Int→List Int
  |[]=>[]
  |_::l=>wk .i64 (ah l)::oU l
theorem Ll: ∀ l,(oU l).length=l.length
  |[]=>rfl
  |_::l=>by simp[oU,Ll l]
theorem SA: ∀ {l:List Int} {i:Nat} (h:i<l.length),(oU l)[i]? =some (wk .i64 (ah (l.drop (i+1))))
  |_::l,0,_=>by simp[oU]
  | _::l,i+1,h=>by
    have:=SA (l:=l) (i:=i) (by simpa using h)
    simpa[oU]using this
theorem aIT(i:Nat)(x:Int)(s:List Int):(List.replicate (i+1) 0++s).set i x=List.replicate i 0++x::s:=by
  rw[List.replicate_succ',List.append_assoc,List.set_append_right _ _ (by simp)]
  simp
theorem afB{fu:Nat}{l:List Int}(hl:l.length*8≤140737488355328)(hf:l.length<fu):mF fu l=some (oU l):=by
  unfold mF mF.W1
  rw[aU (by omega)]
  have hw:wk .i64 ((l.length:Int) - 1)=((l.length:Int) - 1):=bP (by omega) (by omega)
  rw[hw,Int.toNat_natCast]
  refine(vY (λ_=>some (oU l)) (λ(s:List Int×Int×Int)=> ∃ k:Nat,k<=l.length/\s=(List.replicate k 0++oU (l.drop k),wk .i64 (ah (l.drop k)),(k:Int) - 1)) (λs=>(s.2.2+1).toNat) ?_ fu _ ⟨l.length,Nat.le_refl _,by simp[oU,ah];decide⟩ (by simp;omega))
  rintro _ ⟨k,hk,rfl⟩ next hn
  unfold mF.L1
  simp only
  match k,hk with
  |0,_=>rw[if_neg (by decide)];simp
  | k+1,hk=>
    have e1:(((k+1:Nat):Int) - 1)=(k:Int):=by omega
    have hlen:(List.replicate (k+1) (0:Int)++oU (l.drop (k+1))).length=l.length:=by simp[Ll];omega
    rw[e1,if_pos (by omega),hlen,aU (by omega),at?_get (by omega),ob_some,Int.toNat_natCast,aIT,apm,bP (x:=(k:Int) - 1) (by omega) (by omega)]
    refine hn _ ⟨k,by omega,?_⟩ (by simp)
    rw[List.drop_eq_getElem_cons (by omega:k<l.length)]
    simp only[oU,ah]
    rw[Int.mul_comm]
theorem aql{l:List Int}(hp: ∀ x ∈ l,1≤x): ∀ k,1≤ah (l.drop k)∧ah (l.drop k)≤ah l:=by
  induction l with
  |nil=>intro k;simp[ah]
  | cons x l ih=>
    intro k
    have hx:=hp x (by simp)
    have ih':=ih λy hy=>hp y (by simp[hy])
    cases k with
    |zero=>exact⟨by simpa using Hq hp,by simp⟩
    | succ k=>
      obtain⟨h1,h2⟩:=ih' k
      have h3:=Hq (l:=l) λy hy=>hp y (by simp[hy])
      refine⟨by simpa using h1,?_⟩
      simp only[List.drop_succ_cons,ah]
      have:1*ah l<=x*ah l:=Int.mul_le_mul_of_nonneg_right hx (by omega)
      omega
theorem Tt{l:List Int}(hg:Good l)(h0:ah l≠0): ∀ x ∈ l,1≤x:=fun x hx=>by
  have:=(hg.2.1 x hx).1
  by_cases h:x=0
  · subst h;exact absurd (LU hx) h0
  · omega
theorem II{l:List Int}(hg:Good l):l.length*8<=140737488355328:=by have:=hg.1;omega
def kV:List Int→Int→List Int
  |[],_=>[]
  |_::l,a=>a / ah l::kV l (a%ah l)
theorem QF: ∀ l a,(kV l a).length=l.length
  |[],_=>rfl
  |_::l,a=>by simp[kV,QF l]
def qf:List Int→List Int→Bool
  |d::l,x::xs=>decide (0<=x)&&decide (x<d)&&qf l xs
  |_,_=>true
theorem UV: ∀ {l:List Int} {a:Int},(∀ x ∈ l,1≤x)→0≤a→a<ah l→qf l (kV l a)=true
  |[],_,_,_,_=>rfl
  | d::l,a,hp,h0,h1=>by
    have hq:1<=ah l:=Hq λx hx=>hp x (by simp[hx])
    have h2:0<=a / ah l:=Int.ediv_nonneg h0 (by omega)
    have h3:a / ah l<d:=Int.ediv_lt_of_lt_mul (by omega) h1
    have h4:=UV (l:=l) (a:=a%ah l) (λx hx=>hp x (by simp[hx])) (Int.emod_nonneg _ (by omega)) (Int.emod_lt_of_pos _ (by omega))
    simp[kV,qf,h2,h3,h4]
end Go.Av
namespace Go.Av
theorem aaY{fu:Nat}{l:List Int}(h:l.length*8≤140737488355328):slices_Clone_int fu l=some l:=by
  unfold slices_Clone_int
  rw[aU (by omega)]
end Go.Av
namespace Go.Av
theorem ab7{a b:List Int}{i:Nat}(ha:i<a.length)(hb:i<b.length):a.drop i=b.drop i ↔ a[i]=b[i]∧a.drop (i+1)=b.drop (i+1):=by
  rw[List.drop_eq_getElem_cons ha,List.drop_eq_getElem_cons hb]
  exact List.cons_eq_cons
theorem afl{fu:Nat}{a b:List Int}(hl:Short a)(hf:a.length<fu):mM fu a b=some (decide (a=b)):=by
  unfold mM mM.W1
  by_cases hlen:a.length=b.length
  · rw [if_pos (by omega)]
    refine(vY (λ(i:Int)=>some (decide (a.drop i.toNat=b.drop i.toNat))) (λi=>0<=i/\i<=a.length) (λi=>a.length - i.toNat) ?_ fu 0 (by simp) (by simp;omega)).trans (by simp)
    rintro i ⟨h0,h1⟩ next hn
    obtain⟨k,rfl⟩:=Int.eq_ofNat_of_zero_le h0
    unfold mM.L1
    simp only[Int.toNat_natCast]
    by_cases hk:k<a.length
    · rw[if_pos (by omega),at?_get hk,ob_some,at?_get (by omega:k<b.length),ob_some,gU (by unfold Short at hl;omega)]
      have hd:=ab7 hk (by omega:k<b.length)
      by_cases he:a[k]=b[k]
      · rw[if_pos he,hn _ (by omega) (by simp;omega)]
        simp[hd,he]
      · rw[if_neg he]
        simp[hd,he]
    · rw[if_neg (by omega)]
      have e1:a.drop k=b.drop k:=by rw[List.drop_of_length_le (by omega),List.drop_of_length_le (by omega)]
      simp[e1]
  · rw[if_neg (by omega)]
    have: ¬ a=b:=λh=>hlen (by rw[h])
    simp[this]
end Go.Av
namespace Go.Av
theorem akc{fu:Nat}{a b:List Int}(hl:Short a)(hf:a.length<fu):slices_Equal_int fu a b=some (decide (a=b)):=by
  unfold slices_Equal_int slices_Equal_int.W1
  by_cases hlen:a.length=b.length
  · rw [if_pos (by omega)]
    refine(vY (λ(i:Int)=>some (decide (a.drop i.toNat=b.drop i.toNat))) (λi=>0<=i/\i<=a.length) (λi=>a.length - i.toNat) ?_ fu 0 (by simp) (by simp;omega)).trans (by simp)
    rintro i ⟨h0,h1⟩ next hn
    obtain⟨k,rfl⟩:=Int.eq_ofNat_of_zero_le h0
    unfold slices_Equal_int.L1
    simp only[Int.toNat_natCast]
    by_cases hk:k<a.length
    · rw[if_pos (by omega),at?_get hk,ob_some,at?_get (by omega:k<b.length),ob_some,gU (by unfold Short at hl;omega)]
      have hd:=ab7 hk (by omega:k<b.length)
      by_cases he:a[k]=b[k]
      · rw[if_pos he,hn _ (by omega) (by simp;omega)]
        simp[hd,he]
      · rw[if_neg he]
        simp[hd,he]
    · rw[if_neg (by omega)]
      have e1:a.drop k=b.drop k:=by rw[List.drop_of_length_le (by omega),List.drop_of_length_le (by omega)]
      simp[e1]
  · rw[if_neg (by omega)]
    have: ¬ a=b:=λh=>hlen (by rw[h])
    simp[this]
def gK:List Int→List Int→Option (List Int)
  |x::a,d::b=>if x=1 then(gK a b).map (d:: ·)else if d=1∨d=x then(gK a b).map (x:: ·)else none
  |_,_=>some []
def bc'(a b:List Int):Option (List Int):=(gK (a.drop (a.length - b.length)) b).map (a.take (a.length - b.length)++ ·)
def bc(a b:List Int):Option (List Int):=if a.length<b.length then bc' b a else bc' a b
def dX(a b:List Int):List Int×Int:=
  if Good a then(if Good b then(match bc a b with
    |some l=>if Good l then(l,0)else([],lS l)
    |none=>([],3))else([],lS b))else([],lS a)
theorem ZH: ∀ {a b r:List Int},a.length=b.length→gK a b=some r→r.length=b.length
  |[],[],r,_,h=>by simp[gK]at h;subst h;rfl
  | x ::a,d::b,r,hl,h=>by
    simp only[gK]at h
    have hl':a.length=b.length:=by simpa using hl
    split at h
    · simp only[Option.map_eq_some_iff]at h
      obtain⟨q,hq,rfl⟩:=h
      simp[ZH hl' hq]
    · split at h
      · simp only[Option.map_eq_some_iff]at h
        obtain⟨q,hq,rfl⟩:=h
        simp[ZH hl' hq]
      · cases h
theorem Rj{a b r:List Int}(hl:b.length≤a.length)(h:bc' a b=some r):r.length=a.length:=by
  unfold bc' at h
  simp only[Option.map_eq_some_iff]at h
  obtain⟨q,hq,rfl⟩:=h
  have:=ZH (by simp;omega) hq
  simp;omega
theorem aHg{fu:Nat}{l:List Int}(hl:Short l)(hf:l.length<fu):dJ.k3 fu l=some (if Good l then(l,0)else([],lS l)):=by
  unfold dJ.k3
  rw[sU hl hf,ob_some]
  simp only[mD]
  by_cases hg:Good l
  · simp only[if_pos hg,if_true]
  · simp only[if_neg hg]
    rw[if_neg (nO l)]
theorem ahZ{fu:Nat}{a b:List Int}(ha:a.length≤8)(hl:b.length≤a.length)(hf:9<fu):dJ.W1 fu a b a 0=some (match bc' a b with
    |some l=>if Good l then(l,0)else([],lS l)
    |none=>([],3)):=by
  unfold dJ.W1
  have key: ∀ l:List Int,l.length=a.length->dJ.k3 fu l=some (if Good l then(l,0)else([],lS l)):=λl h=>aHg (by unfold Short;omega) (by omega)
  have hah:wk .i64 ((a.length:Int) - (b.length:Int))=((a.length - b.length:Nat):Int):=by rw[bP (by omega) (by omega)];omega
  generalize hA:a.length - b.length=A at hah
  refine(vY (fun(s:List Int×Int)=>some (match (gK (s.1.drop (A+s.2.toNat)) (b.drop s.2.toNat)).map (s.1.take (A+s.2.toNat)++ ·)with
    |some l=>if Good l then(l,0)else([],lS l)
    |none=>([],3))) (λs=>0<=s.2/\s.2<=b.length/\s.1.length=a.length) (λs=>b.length - s.2.toNat) ?_ fu (a,0) ⟨by simp,by simp,rfl⟩ (by simp;omega)).trans (by simp[bc',hA])
  rintro⟨o,i⟩ ⟨h0,h1,h2⟩ next hn
  simp only at h0 h1 h2 hn ⊢
  obtain⟨k,rfl⟩:=Int.eq_ofNat_of_zero_le h0
  unfold dJ.L1
  simp only[Int.toNat_natCast,hah]
  have hidx:wk .i64 ((A:Int)+(k:Int))=((A+k:Nat):Int):=by rw[bP (by omega) (by omega)];omega
  by_cases hk:k<b.length
  · have hko:A+k<o.length:=by omega
    rw[if_pos (by omega),at?_get hk,ob_some,hidx,at?_get hko,ob_some,gU (by omega),Int.toNat_natCast]
    rw[List.drop_eq_getElem_cons hko,List.drop_eq_getElem_cons hk]
    simp only[gK]
    have hnext: ∀ o':List Int,o'.length=a.length->next (o',((k+1:Nat):Int))=_:=λo' ho'=>hn (o',((k+1:Nat):Int)) ⟨by simp only[];omega,by simp only[];omega,ho'⟩ (by simp;omega)
    simp only[Int.toNat_natCast]at hnext
    by_cases h3:o[A+k]=1
    · rw[if_pos h3,if_pos h3,aU (by omega),hnext _ (by simp[h2])]
      have e1:(o.set (A+k) b[k]).drop (A+(k+1))=o.drop (A+k+1):=by
        rw[List.drop_set_of_lt (by omega)];rfl
      have e2:(o.set (A+k) b[k]).take (A+(k+1))=o.take (A+k)++[b[k]]:=by
        rw[← Nat.add_assoc,List.take_succ_eq_append_getElem (by simp;omega),List.take_set,List.set_eq_of_length_le (by simp;omega)]
        simp
      rw[e1,e2]
      cases gK (o.drop (A+k+1)) (b.drop (k+1)) <;> simp
    · rw [if_neg h3,if_neg h3]
      have e2:o.take (A+(k+1))=o.take (A+k)++[o[A+k]]:=by
        rw[← Nat.add_assoc,List.take_succ_eq_append_getElem hko]
      by_cases h4:b[k]=1
      · rw[if_pos h4,if_pos (.inl h4),hnext _ h2,e2]
        cases gK (o.drop (A+k+1)) (b.drop (k+1))with
        |none=>rfl
        |some r=>simp only[Option.map_some,List.append_assoc,List.cons_append,List.nil_append]
      · rw[if_neg h4]
        by_cases h5:b[k]=o[A+k]
        · rw[if_pos h5,if_pos (.inr h5),hnext _ h2,e2]
          cases gK (o.drop (A+k+1)) (b.drop (k+1))with
          |none=>rfl
          |some r=>simp only[Option.map_some,List.append_assoc,List.cons_append,List.nil_append]
        · rw[if_neg h5,if_neg (fun h=>h.elim h4 h5)]
          rfl
  · rw[if_neg (by omega),key o h2,List.drop_of_length_le (by omega),List.drop_of_length_le (by omega),List.take_of_length_le (by omega)]
    simp[gK]
theorem abt{fu:Nat}{a b:List Int}(ha:Short a)(hb:Short b)(hfa:a.length<fu)(hfb:b.length<fu)(hf:9<fu):dJ fu a b=some (dX a b):=by
  unfold dJ dJ.W2;(try unfold jn)
  have hk1:Good a→Good b→ ∀ z,dJ.k1 fu a b z=some (dX a b):=by
    intro ga gb z
    unfold dJ.k1 dJ.k2;(try unfold jn)
    simp only[dX,if_pos ga,if_pos gb,bc]
    by_cases hlt:a.length<b.length
    · rw[if_pos (by omega),if_pos hlt,aaY (II gb),ob_some,ahZ gb.1 (by omega) hf]
    · rw[if_neg (by omega),if_neg hlt,aaY (II ga),ob_some,ahZ ga.1 (by omega) hf]
  obtain⟨f,rfl⟩: ∃ f,fu=f+3:=⟨fu - 3,by omega⟩
  have h0:at? [a,b] (0:Int)=some a:=rfl
  have h1:at? [a,b] (1:Int)=some b:=rfl
  have w0:wk .i64 ((0:Int)+1)=1:=by decide
  have w1:wk .i64 ((1:Int)+1)=2:=by decide
  unfold bz dJ.L2
  simp only
  rw[if_pos (by decide),h0,ob_some,sU ha hfa,ob_some]
  simp only[mD]
  by_cases ga:Good a
  · simp only[if_pos ga,if_true,w0]
    unfold bz
    simp only
    rw[if_pos (by decide),h1,ob_some,sU hb hfb,ob_some]
    simp only[mD]
    by_cases gb:Good b
    · simp only[if_pos gb,if_true,w1]
      unfold bz
      simp only
      rw[if_neg (by decide),hk1 ga gb]
    · simp only[if_neg gb]
      rw[if_neg (nO b)]
      simp[dX,ga,gb]
  · simp only[if_neg ga]
    rw[if_neg (nO a)]
    simp[dX,ga]
end Go.Av
namespace Go.Av
theorem atd{fu:Nat}{l:List Int}{a:Int}(hg:Good l)(hn0:1≤ah l)(ha:0≤a)(ha2:a≤4096)(hf:l.length<fu):jK.W1 fu (oU l) (List.replicate l.length 0) a 0=some (kV l a,0):=by
  have hp:=Tt hg (by omega)
  have hd:=aql hp
  have hP:=hg.2.2
  have hL:=hg.1
  unfold jK.W1
  refine(vY (λs=>some (s.1.take s.2.2.toNat++kV (l.drop s.2.2.toNat) s.2.1,(0:Int))) (λ(s:List Int×Int×Int)=>0<=s.2.2/\s.2.2<=l.length/\s.1.length=l.length/\0<=s.2.1/\s.2.1<=4096) (λs=>l.length - s.2.2.toNat) ?_ fu _ ⟨by simp,by simp,by simp,ha,ha2⟩ (by simp;omega)).trans (by simp)
  rintro⟨o,b,i⟩ ⟨h0,h1,h2,h3,h4⟩ next hn
  simp only at h0 h1 h2 h3 h4 hn ⊢
  obtain⟨k,rfl⟩:=Int.eq_ofNat_of_zero_le h0
  unfold jK.L1
  simp only[Int.toNat_natCast,Ll]
  by_cases hk:k<l.length
  · obtain⟨d1,d2⟩:=hd (k+1)
    have hw:wk .i64 (ah (l.drop (k+1)))=ah (l.drop (k+1)):=bP (by omega) (by omega)
    rw[if_pos (by omega),at?_nat,SA hk,ob_some,hw]
    have q1:Int.tdiv b (ah (l.drop (k+1)))=b / ah (l.drop (k+1)):=Int.tdiv_eq_ediv_of_nonneg h3
    have q2:Int.tmod b (ah (l.drop (k+1)))=b%ah (l.drop (k+1)):=Int.tmod_eq_emod_of_nonneg h3
    have q3:0<=b / ah (l.drop (k+1)):=Int.ediv_nonneg h3 (by omega)
    have q4:b / ah (l.drop (k+1))<=b:=Int.ediv_le_self _ h3
    have q5:0<=b%ah (l.drop (k+1)):=Int.emod_nonneg _ (by omega)
    have q6:b%ah (l.drop (k+1))<ah (l.drop (k+1)):=Int.emod_lt_of_pos _ (by omega)
    rw[aU (by omega),aU (by omega),q1,q2,bP (by omega) (by omega),gU (by omega)]
    rw[hn (_,_,((k+1:Nat):Int)) ⟨by simp only[];omega,by simp only[];omega,by simp[h2],q5,by simp only[];omega⟩ (by simp;omega)]
    simp only[Int.toNat_natCast,Option.some.injEq,Prod.mk.injEq,and_true]
    rw[List.drop_eq_getElem_cons hk]
    simp only[kV]
    rw[List.take_succ_eq_append_getElem (by simp;omega),List.append_assoc,List.take_set,List.set_eq_of_length_le (by simp;omega)]
    simp
  · rw[if_neg (by omega),List.drop_of_length_le (by omega),List.take_of_length_le (by omega)]
    simp[kV]
def abI(l:List Int)(a:Int):List Int×Int:=if Good l then(if 0<=a/\a<ah l then(kV l a,0)else([],2))else([],lS l)
theorem aL1{fu:Nat}{l:List Int}{a:Int}(hl:Short l)(hf:l.length<fu):jK fu l a=some (abI l a):=by
  unfold jK;try unfold jn
  rw[sU hl hf,ob_some]
  simp only[mD,abI]
  by_cases hg:Good l
  · simp only[if_pos hg,if_true]
    by_cases h1:a<0
    · rw[if_pos h1,if_neg (by omega)]
    · rw[if_neg h1]
      by_cases h2:ah l<=a
      · rw[if_pos h2,if_neg (by omega)]
      · rw[if_neg h2,if_pos (by omega)]
        unfold jK.k1
        have:=hg.1
        have:=hg.2.2
        rw[aU (by omega),afB (II hg) hf,ob_some,Int.toNat_natCast,atd hg (by omega) (by omega) (by omega) hf]
  · simp only[if_neg hg]
    rw[if_neg (nO l)]
end Go.Av
namespace Go.Av
theorem WP: ∀ {a b:List Int},a.length=b.length→gK a b=gK b a
  |[],[],_=>rfl
  | x ::a,d::b,h=>by
    have ih:=WP (a:=a) (b:=b) (by simpa using h)
    simp only[gK,ih]
    by_cases h1:x=1 <;> by_cases h2:d=1
    · subst h1 h2;rfl
    · subst h1;simp[h2]
    · subst h2;simp[h1]
    · by_cases h3:d=x
      · subst h3;simp[h1]
      · have h4: ¬ x=d:=fun h=>h3 h.symm
        simp[h1,h2,h3,h4]
theorem Ru{a b:List Int}:bc a b=bc b a:=by
  unfold bc
  by_cases h1:a.length<b.length
  · rw[if_pos h1,if_neg (by omega)]
  · rw[if_neg h1]
    by_cases h2:b.length<a.length
    · rw[if_pos h2]
    · rw[if_neg h2]
      have hl:a.length=b.length:=by omega
      unfold bc'
      rw[hl]
      simp[WP hl]
theorem Ig: ∀ {r:List Int},gK r r=some r
  |[]=>rfl
  | x::r=>by
    simp only[gK,Ig (r:=r)]
    by_cases h:x=1
    · simp[h]
    · simp[h]
theorem Pn: ∀ {a b r:List Int},a.length=b.length→gK a b=some r→gK r b=some r
  |[],[],r,_,h=>by simp[gK]at h;subst h;rfl
  | x ::a,d::b,r,hl,h=>by
    simp only[gK]at h
    have hl':a.length=b.length:=by simpa using hl
    split at h
    · simp only[Option.map_eq_some_iff]at h
      obtain⟨q,hq,rfl⟩:=h
      have ih:=Pn hl' hq
      simp only[gK,ih]
      by_cases h1:d=1 <;> simp[h1]
    · split at h
      · rename_i hx hd
        simp only[Option.map_eq_some_iff]at h
        obtain⟨q,hq,rfl⟩:=h
        have ih:=Pn hl' hq
        simp only[gK,ih,if_neg hx,if_pos hd]
        rfl
      · cases h
theorem amC{a b r:List Int}(hl:b.length≤a.length)(h:bc' a b=some r):bc' r b=some r:=by
  have hrl:=Rj hl h
  unfold bc' at h ⊢
  simp only[Option.map_eq_some_iff]at h
  obtain⟨q,hq,rfl⟩:=h
  have hda:(a.drop (a.length - b.length)).length=b.length:=by simp;omega
  have hz:=Pn hda hq
  rw[hrl]
  have hpl:(a.take (a.length - b.length)).length=a.length - b.length:=by simp
  have e1:(a.take (a.length - b.length)++q).drop (a.length - b.length)=q:=by
    rw[List.drop_append_of_le_length (by omega),List.drop_of_length_le (by omega)];rfl
  have e2:(a.take (a.length - b.length)++q).take (a.length - b.length)=a.take (a.length - b.length):=by
    rw[List.take_append_of_le_length (by omega),List.take_of_length_le (by omega)]
  rw[e1,e2,hz];rfl
theorem adO{a b r:List Int}(hl:b.length≤a.length)(h:bc' a b=some r):bc' r a=some r:=by
  have hrl:=Rj hl h
  unfold bc' at h ⊢
  simp only[Option.map_eq_some_iff]at h
  obtain⟨q,hq,rfl⟩:=h
  have hda:(a.drop (a.length - b.length)).length=b.length:=by simp;omega
  rw[WP hda]at hq
  have hz:=Pn hda.symm hq
  rw[hrl,Nat.sub_self,List.drop_zero,List.take_zero]
  have key: ∀ (p q s:List Int),gK q s=some q→gK (p++q) (p++s)=some (p++q):=by
    intro p
    induction p with
    |nil=>intro q s h;exact h
    | cons x p ih=>
      intro q s h
      simp only[List.cons_append,gK,ih q s h]
      by_cases h1:x=1 <;> simp[h1]
  have:=key (a.take (a.length - b.length)) q (a.drop (a.length - b.length)) hz
  rw[List.take_append_drop]at this
  rw[this];rfl
theorem JW{a b r:List Int}(h:bc a b=some r):bc r a=some r∧bc b r=some r∧bc r r=some r∧a.length≤r.length∧b.length≤r.length∧r.length=max a.length b.length:=by
  have hrr:bc r r=some r:=by simp[bc,bc',Ig]
  unfold bc at h
  by_cases hlt:a.length<b.length
  · rw[if_pos hlt]at h
    have hrl:=Rj (by omega) h
    have h1:=amC (by omega) h
    have h2:=adO (by omega) h
    refine⟨by unfold bc;rw[if_neg (by omega)];exact h1,?_,hrr,by omega,by omega,by omega⟩
    rw[Ru]
    unfold bc;rw[if_neg (by omega)];exact h2
  · rw[if_neg hlt]at h
    have hrl:=Rj (by omega) h
    have h1:=amC (by omega) h
    have h2:=adO (by omega) h
    refine⟨by unfold bc;rw[if_neg (by omega)];exact h2,?_,hrr,by omega,by omega,by omega⟩
    rw[Ru]
    unfold bc;rw[if_neg (by omega)];exact h1
def sZ:List Int→List Int→Int
  |d::l,x::xs=>(if d=1 then 0 else x*ah l)+sZ l xs
  |_,_=>0
def fromV(s l:List Int)(a:Int):Int×Int:=
  if Good s then(if Good l then(if dX s l=(l,0)then(if 0<=a/\a<ah l then(sZ s ((kV l a).drop (l.length - s.length)),0)else(0,2))else(0,3))else(0,lS l))else(0,lS s)
def qE:List Int→List Int→Prop
  |d::s,x::l=>(d=1∨d=x)/\qE s l
  |_,_=>True
theorem ZX: ∀ {a b:List Int},a.length=b.length→gK a b=some a→qE b a
  |[],[],_,_=>trivial
  | x ::a,d::b,hl,h=>by
    simp only[gK]at h
    have hl':a.length=b.length:=by simpa using hl
    split at h
    · rename_i hx
      simp only[Option.map_eq_some_iff]at h
      obtain⟨q,hq,he⟩:=h
      injection he with h1 h2
      subst h2
      exact⟨.inr h1,ZX hl' hq⟩
    · split at h
      · rename_i hx hd
        simp only[Option.map_eq_some_iff]at h
        obtain⟨q,hq,he⟩:=h
        injection he with h1 h2
        subst h2
        exact⟨hd,ZX hl' hq⟩
      · cases h
theorem Q8{s l:List Int}(hs:Good s)(hlg:Good l)(h:dX s l=(l,0)):s.length≤l.length∧bc s l=some l∧qE s (l.drop (l.length - s.length)):=by
  simp only[dX,if_pos hs,if_pos hlg]at h
  cases hb:bc s l with
  |none=>rw[hb]at h;simp at h
  | some r=>
    rw[hb]at h
    simp only at h
    have hr:r=l:=by
      split at h
      · exact(Prod.mk.inj h).1
      · exact absurd (Prod.mk.inj h).2 (nO r)
    subst hr
    obtain⟨h1,_,_,h4,_,_⟩:=JW hb
    refine⟨h4,rfl,?_⟩
    unfold bc at h1
    rw[if_neg (by omega)]at h1
    unfold bc' at h1
    simp only[Option.map_eq_some_iff]at h1
    obtain⟨q,hq,he⟩:=h1
    have:q=r.drop (r.length - s.length):=by
      have:=congrArg (List.drop (r.length - s.length)) he
      rwa[List.drop_append_of_le_length (by simp),List.drop_of_length_le (by simp),List.nil_append]at this
    rw[this]at hq
    exact ZX (by simp;omega) hq
theorem aaq: ∀ (k:Nat) {l xs:List Int},qf l xs=true→qf (l.drop k) (xs.drop k)=true
  |0,_,_,h=>by simpa using h
  |k+1,[],xs,h=>by simp[qf]
  |k+1,_::_,[],h=>by cases h':(List.drop (k+1) _:List Int) <;> simp[qf]
  | k+1,d::l,x::xs,h=>by
    simp only[qf,Bool.and_eq_true]at h
    simpa using aaq k h.2
theorem fit_drop: ∀ {s l:List Int} (hl:s.length=l.length),qE s l→ ∀ (k:Nat) (h:k<s.length),(s[k]=1∨s[k]=l[k]'(hl ▸ h))
  |d::s,x::l,hl,hf,0,_=>hf.1
  | d::s,x::l,hl,hf,k+1,h=>by
    have:=fit_drop (s:=s) (l:=l) (by simpa using hl) hf.2 k (by simpa using h)
    simpa using this
theorem abO: ∀ {l xs:List Int} (hl:l.length=xs.length),qf l xs=true→ ∀ (k:Nat) (h:k<l.length),0≤xs[k]'(hl ▸ h)∧xs[k]'(hl ▸ h)<l[k]
  | d::l,x::xs,hl,ho,0,_=>by
    simp only[qf,Bool.and_eq_true,decide_eq_true_eq]at ho
    exact ho.1
  | d::l,x::xs,hl,ho,k+1,h=>by
    simp only[qf,Bool.and_eq_true]at ho
    have:=abO (l:=l) (xs:=xs) (by simpa using hl) ho.2 k (by simpa using h)
    simpa using this
theorem aB9{fu:Nat}{s l:List Int}{a:Int}(hs:Good s)(hlg:Good l)(hls:s.length≤l.length)(hfit:qE s (l.drop (l.length - s.length)))(h0:0≤a)(h1:a<ah l)(hf:9<fu)(e:Int):
    jM.W1 fu s l (kV l a,e) (oU s) 0 0=some (sZ s ((kV l a).drop (l.length - s.length)),0):=by
  have hL:=hlg.1
  have hS:=hs.1
  have hP:=hs.2.2
  have hn:ah l≠0:=by omega
  have hok:=aaq (l.length - s.length) (UV (Tt hlg hn) h0 h1)
  have hil:=QF l a
  have hw:wk .i64 ((l.length:Int) - (s.length:Int))=((l.length - s.length:Nat):Int):=by rw[bP (by omega) (by omega)];omega
  unfold jM.W1
  generalize hA:l.length - s.length=A at hw hok hfit ⊢
  generalize hx:(kV l a).drop A=xs at hok ⊢
  have hxl:xs.length=s.length:=by rw[← hx];simp[hil];omega
  have hdl:(l.drop A).length=s.length:=by simp;omega
  have hsub:oZ (kV l a) (A:Int).toNat (kV l a).length=xs:=by
    simp only[oZ,Int.toNat_natCast,hx,hil]
    rw[List.take_of_length_le (by omega)]
  refine(vY (λ(t:Int×Int)=>some (t.1+sZ (s.drop t.2.toNat) (xs.drop t.2.toNat),(0:Int))) (λt=>0<=t.2/\t.2<=s.length/\0<=t.1/\t.1+ah (s.drop t.2.toNat)<=4096) (λt=>s.length - t.2.toNat) ?_ fu (0,0) ⟨by simp,by simp,by simp,by simpa using hP⟩ (by simp;omega)).trans (by simp)
  rintro⟨o,i⟩ ⟨q0,q1,q2,q3⟩ next hnx
  simp only at q0 q1 q2 q3 hnx ⊢
  obtain⟨k,rfl⟩:=Int.eq_ofNat_of_zero_le q0
  unfold jM.L1
  simp only[Int.toNat_natCast,Ll,hw]at q3 ⊢
  by_cases hk:k<s.length
  · have hkx:k<xs.length:=by omega
    have hsub2:oZ (kV l a) A (kV l a).length=xs:=by simpa using hsub
    rw[if_pos (by omega),at?_nat,SA hk,ob_some,at?_get hk,ob_some]
    rw[List.drop_eq_getElem_cons hk]at q3
    simp only[ah]at q3
    rw[List.drop_eq_getElem_cons hk,List.drop_eq_getElem_cons hkx]
    simp only[sZ]
    have hpn:0<=ah (s.drop (k+1)):=kQ λx hx=>hs.2.1 x (List.mem_of_mem_drop hx)
    by_cases hd:s[k]=1
    · rw[if_pos hd,if_pos hd,gU (by omega)]
      rw[hd,Int.one_mul]at q3
      rw[hnx (o,((k+1:Nat):Int)) ⟨by simp only[];omega,by simp only[];omega,q2,by simpa using q3⟩ (by simp;omega)]
      simp
    · rw[if_neg hd,if_neg hd,hsub2,at?_get hkx,ob_some]
      have hfk:=(fit_drop hdl.symm hfit k hk).resolve_left hd
      obtain⟨r1,r2⟩:=abO (by omega) hok k (by omega)
      rw[← hfk]at r2
      have m1:(xs[k]+1)*ah (s.drop (k+1))<=s[k]*ah (s.drop (k+1)):=Int.mul_le_mul_of_nonneg_right (by omega) hpn
      rw[Int.add_mul,Int.one_mul]at m1
      have m2:0<=xs[k]*ah (s.drop (k+1)):=Int.mul_nonneg r1 hpn
      rw[bP (x:=ah (s.drop (k+1))) (by omega) (by omega),bP (x:=xs[k]*ah (s.drop (k+1))) (by omega) (by omega),bP (by omega) (by omega),gU (by omega)]
      rw[hnx (_,((k+1:Nat):Int)) ⟨by simp only[];omega,by simp only[];omega,by simp only[];omega,by simp only[Int.toNat_natCast];omega⟩ (by simp;omega)]
      simp only[Int.toNat_natCast,Int.add_assoc]
  · rw[if_neg (by omega),List.drop_of_length_le (by omega),List.drop_of_length_le (by omega)]
    simp[sZ]
theorem atZ{fu:Nat}{s l:List Int}{a:Int}(hs:Short s)(hl:Short l)(hfs:s.length<fu)(hfl:l.length<fu)(hf:9<fu):jM fu s l a=some (fromV s l a):=by
  unfold jM jM.k1;(try unfold jn)
  rw[sU hs hfs,ob_some,sU hl hfl,ob_some,abt hs hl hfs hfl hf,ob_some]
  simp only[mD,fromV]
  by_cases gs:Good s
  · simp only[if_pos gs,if_true]
    by_cases gl:Good l
    · simp only[if_pos gl,if_true]
      by_cases he:(dX s l).2=0
      · rw [if_pos he]
        have hsh:Short (dX s l).1:=by
          simp only[dX,if_pos gs,if_pos gl]
          have:=gs.1;have:=gl.1
          cases hb:bc s l with
          |none=>simp[Short]
          | some r=>
            obtain⟨_,_,_,_,_,h6⟩:=JW hb
            simp only
            split <;> simp[Short];omega
        have hfl2:(dX s l).1.length<fu:=by
          simp only[dX,if_pos gs,if_pos gl]
          have:=gs.1;have:=gl.1
          cases hb:bc s l with
          |none=>simp;omega
          | some r=>
            obtain⟨_,_,_,_,_,h6⟩:=JW hb
            simp only
            split <;> simp <;> omega
        rw[akc hsh hfl2,ob_some]
        by_cases heq:(dX s l).1=l
        · have hbv:dX s l=(l,0):=Prod.ext heq he
          rw[if_pos (by simpa using heq),if_pos hbv,aL1 hl hfl,ob_some]
          simp only[abI,if_pos gl]
          by_cases hr:0<=a/\a<ah l
          · simp only[if_pos hr,if_true]
            obtain⟨f1,_,f3⟩:=Q8 gs gl hbv
            have:=gl.1
            have hw:wk .i64 ((l.length:Int) - (s.length:Int))=((l.length - s.length:Nat):Int):=by rw[bP (by omega) (by omega)];omega
            rw[hw,aU (by rw[QF];omega),afB (II gs) hfs,ob_some,aB9 gs gl f1 f3 hr.1 hr.2 hf]
          · simp only[if_neg hr]
            rfl
        · rw[if_neg (by simpa using heq),if_neg (λh=>heq (by rw[h]))]
      · rw[if_neg he,if_neg (λh=>he (by rw[h]))]
    · simp only[if_neg gl]
      rw[if_neg (nO l)]
  · simp only[if_neg gs]
    rw[if_neg (nO s)]
end Go.Av
namespace Go.Av
def sameT(a b:T_Tensor):Bool:=decide (a.fType=b.fType)&&decide (a.fDims=b.fDims)&&decide (a.fF=b.fF)&&decide (a.fI=b.fI)&&decide (a.fB=b.fB)
def Small(t:T_Tensor):Prop:=t.fDims.length*8<=140737488351232/\t.fF.length<=140737488351232/\t.fI.length<=140737488351232/\t.fB.length<=140737488351232
def Fuel(fu:Nat)(t:T_Tensor):Prop:=t.fDims.length<fu/\t.fF.length<fu/\t.fI.length<fu/\t.fB.length<fu
def noT:T_Tensor:=⟨0,[],[],[],[]⟩
theorem ah0{fu:Nat}{k:Int}:xN fu k=some (decide (k=1∨k=7∨k=9)):=by
  unfold xN qX
  by_cases h1:k=1
  · simp[h1]
  · by_cases h2:k=7
    · simp[h2]
    · by_cases h3:k=9 <;> simp[h1,h2,h3]
def qP(k:Int):Prop:=k=1∨k=7∨k=9
instance (k:Int):Decidable (qP k):=by unfold qP;infer_instance
def pI(t:T_Tensor):Prop:=(t.fF.length:Int)=(if t.fType=1 then ah t.fDims else 0)/\(t.fI.length:Int)=(if t.fType=7 then ah t.fDims else 0)/\(t.fB.length:Int)=(if t.fType=9 then ah t.fDims else 0)
instance (t:T_Tensor):Decidable (pI t):=by unfold pI;infer_instance
def oO(t:T_Tensor):Int:=if qP t.fType then(if Good t.fDims then(if pI t then 0 else 3)else lS t.fDims)else 5
theorem alT{fu:Nat}{t:T_Tensor}(hs:Small t)(hf:Fuel fu t):jP fu t=some (oO t):=by
  obtain⟨s1,s2,s3,s4⟩:=hs
  unfold jP oO;try unfold jn
  rw[ah0,ob_some,sU (by unfold Short;omega) hf.1]
  by_cases hk:qP t.fType
  · rw [if_pos (by simpa[qP]using hk),ob_some,if_pos hk]
    simp only[mD]
    by_cases hg:Good t.fDims
    · simp only[if_pos hg,if_true]
      have hp:=kQ hg.2.1
      have hsum:wk .i64 ((wk .i64 ((t.fF.length:Int)+(t.fI.length:Int)))+(t.fB.length:Int))=t.fF.length+t.fI.length+t.fB.length:=by
        rw[agr,bP (by omega) (by omega)]
      unfold jP.k1 pI
      simp only[hsum]
      rcases hk with e|e|e
      · simp only[e,show ¬ (1:Int)=7 by decide,show ¬ (1:Int)=9 by decide,if_false,if_true]
        by_cases h1:(t.fF.length:Int)=ah t.fDims
        · by_cases h2:(t.fF.length:Int)+t.fI.length+t.fB.length=ah t.fDims
          · rw[if_pos h1,if_pos h2,if_pos ⟨h1,by omega,by omega⟩]
          · rw[if_pos h1,if_neg h2,if_neg (λh=>h2 (by omega))]
        · rw[if_neg h1,if_neg (λh=>h1 h.1)]
      · simp only[e,show ¬ (7:Int)=1 by decide,show ¬ (7:Int)=9 by decide,if_false,if_true]
        by_cases h1:(t.fI.length:Int)=ah t.fDims
        · by_cases h2:(t.fF.length:Int)+t.fI.length+t.fB.length=ah t.fDims
          · rw[if_pos h1,if_pos h2,if_pos ⟨by omega,h1,by omega⟩]
          · rw[if_pos h1,if_neg h2,if_neg (λh=>h2 (by omega))]
        · rw[if_neg h1,if_neg (λh=>h1 h.2.1)]
      · simp only[e,show ¬ (9:Int)=1 by decide,show ¬ (9:Int)=7 by decide,if_false,if_true]
        by_cases h1:(t.fB.length:Int)=ah t.fDims
        · by_cases h2:(t.fF.length:Int)+t.fI.length+t.fB.length=ah t.fDims
          · rw[if_pos h1,if_pos h2,if_pos ⟨by omega,by omega,h1⟩]
          · rw[if_pos h1,if_neg h2,if_neg (λh=>h2 (by omega))]
        · rw[if_neg h1,if_neg (λh=>h1 h.2.2)]
    · simp only[if_neg hg]
      rw[if_neg (nO _)]
  · rw[if_neg (by simpa[qP]using hk),if_neg hk]
theorem NG{t:T_Tensor}:oO t=0 ↔ qP t.fType∧Good t.fDims∧pI t:=by
  unfold oO
  by_cases hk:qP t.fType <;> by_cases hg:Good t.fDims <;> by_cases hl:pI t <;> simp[hk,hg,hl,nO]
theorem ax0{β:Type}{l:List Int}{f:Int→Int}{B:((List Int×Int)→Option β)→(List Int×Int)→Option β}{c:List Int→Option β}{fu:Nat}(hf:l.length<fu)
    (hB: ∀ (next:List Int×Int->Option β) (k:Nat) (m:List Int) (hk:k<l.length),m.length=l.length->(hm:m[k]? =some l[k])->B next (m,(k:Int))=next (m.set k (f l[k]),((k+1:Nat):Int)))
    (hE: ∀ next (m:List Int),m.length=l.length->B next (m,(l.length:Int))=c m):bz B fu (l,0)=c (l.map f):=by
  have:=aeI (body:=B) (n:=fu) l.length (λk=>(l.take k).map f++l.drop k) (c (l.map f)) ?_ ?_ hf
  · simpa using this
  · intro k hk next hn
    have hlk:((l.take k).map f).length=k:=by simp;omega
    rw[hB next k _ hk (by simp;omega) (by rw[List.getElem?_append_right (by omega),hlk,Nat.sub_self,List.getElem?_drop];simp[hk])]
    have e:((l.take k).map f++l.drop k).set k (f l[k])=(l.take (k+1)).map f++l.drop (k+1):=by
      rw[List.set_append_right _ _ (by omega),hlk,Nat.sub_self,List.drop_eq_getElem_cons hk,List.set_cons_zero,List.take_add_one,List.getElem?_eq_getElem hk,List.map_append,List.append_assoc]
      rfl
    rw[e]
    exact hn
  · intro next
    rw[hE _ _ (by simp)]
    simp
def BC(x:Int):Int:=if 2139095040<x%2147483648 then 2143289344 else x
def canonT(t:T_Tensor):T_Tensor:=⟨t.fType,t.fDims,t.fF.map BC,t.fI,t.fB⟩
theorem aLG{x:Int}(h0:0≤x)(h1:x<4294967296):wk .u32 x=x:=by
  have:wk .u32 x=x%4294967296:=by simp[wk,IntKind.wrap,IntKind.signed,IntKind.bits]
  rw[this,Int.emod_eq_of_lt h0 h1]
theorem aei{x:Int}(h0:0≤x)(h1:x<4294967296):uM .u32 x 2147483648=x%2147483648:=by
  unfold uM
  rw[show IntKind.u32.bits=32 from rfl,show ~~~(BitVec.ofInt 32 2147483648)=BitVec.ofNat 32 (2 ^ 31 - 1)by decide,BitVec.toNat_and,BitVec.toNat_ofNat,BitVec.toNat_ofInt]
  have:(2 ^ 31 - 1)%2 ^ 32=2 ^ 31 - 1:=by decide
  rw[this,Nat.and_two_pow_sub_one_eq_mod]
  have hw:=aLG (x:=(((x%((2 ^ 32:Nat):Int)).toNat%2 ^ 31:Nat):Int)) (by omega) (by omega)
  unfold wk at hw
  rw[hw]
  omega
theorem asH{fu:Nat}{x:Int}(h0:0≤x)(h1:x<4294967296):pW fu x=some (BC x):=by
  unfold pW dV iU BC
  rw[aei h0 h1,ob_some,ob_some]
  by_cases h:2139095040<x%2147483648 <;> simp[h]
def Ten(t:T_Tensor):Prop:=t.fDims.length*8<=140737488351232/\t.fF.length*4<=140737488351232/\t.fI.length*8<=140737488351232/\t.fB.length<=140737488351232/\ ∀ x ∈ t.fF,0<=x/\x<4294967296
theorem Ten.small{t:T_Tensor}(h:Ten t):Small t:=by obtain⟨a,b,c,d,_⟩:=h;exact⟨a,by omega,by omega,by omega⟩
theorem afS{fu:Nat}{t:T_Tensor}(h:Ten t):xk fu t=some t:=by
  obtain⟨h1,h2,h3,h4,_⟩:=h
  unfold xk BK zQ BA AA
  rw[aU (by omega),ob_some,aU (by omega),ob_some,aU (by omega),ob_some,aU (by omega),ob_some]
theorem ac6{fu:Nat}{t:T_Tensor}(h:Ten t)(hf:t.fF.length<fu):jO fu t=some (canonT t):=by
  have hu:=h.2.2.2.2
  have hl:=h.2.1
  unfold jO
  rw[afS h,ob_some]
  unfold jO.W1
  refine ax0 (f:=BC) (c:=λm=>some (T_Tensor.mk t.fType t.fDims m t.fI t.fB)) hf ?_ ?_
  · intro next k m hk hm hg
    unfold jO.L1
    simp only[]
    obtain⟨u1,u2⟩:=hu _ (List.getElem_mem hk)
    rw[if_pos (by omega),at?_nat,hg,ob_some,asH u1 u2,ob_some,aU (by omega),gU (by omega)]
    rfl
  · intro next m hm
    unfold jO.L1
    rw[if_neg (by simp)]
end Go.Av
namespace Go.Av
theorem nY{σ β:Type}{body:(σ->Option β)->σ->Option β}{n:Nat}{s:σ}:bz body (n+1) s=body (bz body n) s:=rfl
def OA:aQ:=⟨0,[],false,⟨0,[],[],[],[]⟩⟩
def valOf(t:T_Tensor):aQ:=if t.fType=0 then OA else⟨t.fType,t.fDims,true,t⟩
def CG(fu:Nat)(l:List T_Tensor):Prop:=l.length<=1048576/\l.length<fu/\ ∀ t ∈ l,Ten t/\Fuel fu t
theorem av9{fu:Nat}{l:List Int}(h:l.length*8≤140737488351232):slices_Clone_int fu l=some l:=by
  unfold slices_Clone_int;rw[aU (by omega)]
theorem adW{α β:Type}{f:α→β}{l:List α}{k:Nat}(hk:k<l.length):(l.take (k+1)).map f=(l.take k).map f++[f l[k]]:=by
  rw[List.take_add_one,List.getElem?_eq_getElem hk,List.map_append];rfl
theorem QY{fu:Nat}{l:List T_Tensor}(h:CG fu l):ku fu l=some (l.map valOf):=by
  unfold ku ku.W1
  have hl0:=h.1
  refine aeI l.length (λk=>(l.take k).map valOf) _ ?_ ?_ h.2.1
  · intro k hk next hn
    have ht:=(h.2.2 _ (List.getElem_mem hk)).1
    show ku.L1 fu l _ _ (k:Int)=_
    have hl:((l.take k).map valOf).length=k:=by simp;omega
    rw[adW hk]at hn
    rw[ku.L1,if_pos (by omega),at?_get hk,ob_some,gU (by omega)]
    by_cases h0:l[k].fType=0
    · rw[if_pos h0,aU (by rw[hl];omega)]
      rw[valOf,if_pos h0]at hn
      exact hn
    · rw[if_neg h0,av9 ht.1,ob_some,afS ht,ob_some,aU (by rw[hl];omega)]
      rw[valOf,if_neg h0]at hn
      exact hn
  · intro next
    show ku.L1 fu l _ _ (l.length:Int)=_
    rw[ku.L1,if_neg (by omega),List.take_length]
def sG:List T_Tensor→Option Int
  |[]=>none
  |t::l=>if t.fType=0∨oO t=0 then sG l else some (oO t)
theorem aEh{l:List T_Tensor}(h:sG l=none): ∀ t ∈ l,t.fType=0∨oO t=0:=by
  induction l with
  |nil=>intro t ht;cases ht
  | cons x l ih=>
    unfold sG at h
    split at h
    · rename_i hx
      intro t ht
      rcases List.mem_cons.1 ht with rfl|ht
      · exact hx
      · exact ih h t ht
    · cases h
theorem aCB{l:List T_Tensor}{e:Int}(h:sG l=some e):e≠0:=by
  induction l with
  |nil=>cases h
  | cons x l ih=>
    unfold sG at h
    split at h
    · exact ih h
    · rename_i hx
      injection h with h
      subst h
      exact λh0=>hx (.inr h0)
theorem aka{β:Type}{fu:Nat}{l:List T_Tensor}(h:CG fu l){k1:List T_Tensor→Option β}{er:Int→Option β}{L:(List T_Tensor→Int→Option β)→List T_Tensor→Int→Option β}
    (hL: ∀ nx acc i,L nx acc i=if i<(l.length:Int)then((at? l i).bind fun x=>if x.fType=0 then((jO fu x).bind fun y=>chk ((acc.length+1:Int)*104≤140737488355328)<|nx (acc++([y])) (wk .i64 (i+1)))else
      (jP fu x).bind λc=>if c=0 then((jO fu x).bind λy=>chk ((acc.length+1:Int)*104<=140737488355328)<|nx (acc++([y])) (wk .i64 (i+1)))else er c)else k1 acc):
    bz (λnext s=>L (λa b=>next (a,b)) s.1 s.2) fu (([]:List T_Tensor),(0:Int))=match sG l with|some e=>er e|none=>k1 (l.map canonT):=by
  have hl0:=h.1
  have key : ∀ m q k:Nat,l.length - k=m→k≤l.length→m<q→bz (fun next s=>L (fun a b=>next (a,b)) s.1 s.2) q ((l.take k).map canonT,(k:Int))=match sG (l.drop k)with|some e=>er e|none=>k1 (l.map canonT):=by
    intro m
    induction m with
    | zero=>
      intro q k h1 h2 h3
      cases q with
      |zero=>omega
      | succ q=>
        have:k=l.length:=by omega
        subst this
        rw[nY]
        show L _ _ (l.length:Int)=_
        rw[hL,if_neg (by omega),List.take_length,List.drop_length]
        rfl
    | succ m ih=>
      intro q k h1 h2 h3
      cases q with
      |zero=>omega
      | succ q=>
        have hk:k<l.length:=by omega
        obtain⟨ht,hf⟩:=h.2.2 _ (List.getElem_mem hk)
        have hl:((l.take k).map canonT).length=k:=by simp;omega
        have hn:=ih q (k+1) (by omega) (by omega) (by omega)
        rw[adW hk]at hn
        rw[nY]
        show L _ _ (k:Int)=_
        rw[hL,if_pos (by omega),at?_get hk,ob_some,gU (by omega),List.drop_eq_getElem_cons hk]
        unfold sG
        by_cases h0:l[k].fType=0
        · rw[if_pos h0,ac6 ht hf.2.1,ob_some,aU (by rw[hl];omega),if_pos (.inl h0)]
          exact hn
        · rw[if_neg h0,alT ht.small hf,ob_some]
          by_cases hc:oO l[k]=0
          · rw[if_pos hc,ac6 ht hf.2.1,ob_some,aU (by rw[hl];omega),if_pos (.inr hc)]
            exact hn
          · rw[if_neg hc,if_neg (λhh=>hh.elim h0 hc)]
  exact key l.length fu 0 (by omega) (by omega) h.2.1
end Go.Av
namespace Go.Av
def iW(k:Int)(d:List Int):T_Tensor×Int:=
  if k=1∨k=7∨k=9 then(if Good d then(if k=1 then(⟨k,d,List.replicate (ah d).toNat 0,[],[]⟩,0)else if k=7 then(⟨k,d,[],List.replicate (ah d).toNat 0,[]⟩,0)else(⟨k,d,[],[],List.replicate (ah d).toNat false⟩,0))else(noT,lS d))else(noT,5)
theorem Tm{fu:Nat}{k:Int}{d:List Int}(hd:Short d)(hf:d.length<fu):qM fu k d=some (iW k d):=by
  unfold qM iW
  rw[ah0,ob_some,sU hd hf,ob_some]
  by_cases hk:k=1∨k=7∨k=9
  · rw [if_pos (by simpa using hk),if_pos hk]
    simp only[mD]
    by_cases hg:Good d
    · simp only[if_pos hg,if_true]
      have h1:=kQ hg.2.1
      have h2:=hg.2.2
      have h3:=hg.1
      unfold slices_Clone_int
      rw[aU (by omega),ob_some,aU (by omega),aU (by omega),aU (by omega)]
      by_cases e1:k=1
      · rw[if_pos e1,if_pos e1]
      · rw[if_neg e1,if_neg e1]
        by_cases e2:k=7
        · rw[if_pos e2,if_pos e2]
        · rw[if_neg e2,if_neg e2]
    · simp only[if_neg hg]
      rw[if_neg (nO d)]
      rfl
  · rw[if_neg (by simpa using hk),if_neg hk]
    rfl
end Go.Av
set_option linter.unusedSimpArgs false
set_option maxRecDepth 20000
namespace Go.Av
def vZ(k:Int)(d:List Int):aQ:=⟨k,d,false,⟨0,[],[],[],[]⟩⟩
def lK(op:Int):Prop:=1<=op/\op<=44
theorem Ud{P:Int→Prop}(h: ∀ n:Fin 44,P ((n.val:Int)+1)){op:Int}(ho:lK op):P op:=by
  have:=h ⟨(op - 1).toNat,by have:=ho.1;have:=ho.2;omega⟩
  rwa[show(((op - 1).toNat:Nat):Int)+1=op by have:=ho.1;omega]at this
theorem yf{τ β:Type}{body:(τ→Option β)→τ→Option β}(N:Nat)(st:Nat→τ)(P:Nat→Prop)(Q:Option β→Prop)
    (h: ∀ k,k<N->P k-> ∀ next,(P (k+1)->Q (next (st (k+1))))->Q (body next (st k))) (he:P N-> ∀ next,Q (body next (st N))) (h0:P 0) {n:Nat} (hn:N<n):Q (bz body n (st 0)):=by
  have : ∀ m k,k≤N→N - k<m→P k→Q (bz body m (st k)):=by
    intro m
    induction m with
    |zero=>intro k _ h;omega
    | succ m ih=>
      intro k hk hm hp
      rw[nY]
      by_cases hlt:k<N
      · exact h k hlt hp _ (λhp'=>ih (k+1) (by omega) (by omega) hp')
      · obtain rfl:k=N:=by omega
        exact he hp _
  exact this n 0 (by omega) (by omega) h0
def ar(op:Int):Int×Int:=if op=42 then(3,3)else if op=43 then(1,3)else if op=23∨op=24∨op=25∨(28<=op/\op<=41)then(2,2)else(1,1)
theorem arG{fu:Nat}{op:Int}(h:lK op):zC fu op=some ((ar op).1,(ar op).2,1,1):=
  Ud (P:=λop=>zC fu op=some ((ar op).1,(ar op).2,1,1)) (show ∀ n:Fin 44,zC 0 ((n.val:Int)+1)=_ by decide+kernel) h
def vl(l:List aQ)(i:Nat):aQ:=l.getD i OA
section
variable {fu:Nat} {op:Int} {s:T_Setting} {l:List aQ}
theorem Bq(i:Nat):lZ fu ⟨op,s,l,1⟩ (i:Int)=some (vl l i):=by
  unfold lZ vl
  dsimp only
  by_cases h:i<l.length
  · rw[if_pos (by omega),at?_nat,List.getElem?_eq_getElem h,ob_some,List.getD_eq_getElem?_getD,List.getElem?_eq_getElem h];rfl
  · rw[if_neg (by omega),List.getD_eq_getElem?_getD,List.getElem?_eq_none (by omega)];rfl
theorem Yi:lZ fu ⟨op,s,l,1⟩ 0=some (vl l 0):=Bq 0
theorem aGB:lZ fu ⟨op,s,l,1⟩ 1=some (vl l 1):=Bq 1
theorem abz(i:Nat):vT fu ⟨op,s,l,1⟩ (i:Int)=some (!(decide ((vl l i).fType=0))):=by
  unfold vT;rw[Bq,ob_some]
theorem Pz(i:Nat):kz fu ⟨op,s,l,1⟩ (i:Int)=some (vl l i).fDims:=by
  unfold kz;rw[Bq,ob_some]
theorem abp:kz fu ⟨op,s,l,1⟩ 0=some (vl l 0).fDims:=Pz 0
theorem agZ:kz fu ⟨op,s,l,1⟩ 1=some (vl l 1).fDims:=Pz 1
theorem aEM:kz fu ⟨op,s,l,1⟩ 2=some (vl l 2).fDims:=Pz 2
def Full(op:Int)(l:List aQ):Prop:=(ar op).1<=l.length/\(l.length:Int)<=(ar op).2/\ ∀ i:Nat,(i:Int)<(ar op).1->(vl l i).fType≠0
theorem FV(h:lK op):1<=(ar op).1/\(ar op).1<=3/\(ar op).2<=3:=Ud (P:=λop=>1<=(ar op).1/\(ar op).1<=3/\(ar op).2<=3) (by decide+kernel) h
theorem aqt(h:lK op)(hf:20<fu): ∃ b,jf fu ⟨op,s,l,1⟩=some b∧(b=true→Full op l):=by
  have h61: ¬ op=61:=by have:=h.2;omega
  have h3:=FV h
  unfold jf;try unfold jn
  rw[arG h,ob_some]
  dsimp only
  rw[if_neg (by decide),if_neg h61]
  by_cases h1:(l.length:Int)<(ar op).1
  · rw[if_pos h1];exact⟨_,rfl,λh=>by cases h⟩
  rw[if_neg h1]
  by_cases h2:(ar op).2<(l.length:Int)
  · rw[if_pos h2];exact⟨_,rfl,λh=>by cases h⟩
  rw[if_neg h2,if_neg (by decide),if_neg (by decide)]
  unfold jf.k1 jf.W1
  refine yf (body:=λnext s_1=>_) (ar op).1.toNat (λk=>(k:Int)) (λk=> ∀ i:Nat,i<k->(vl l i).fType≠0) (λr=> ∃ b,r=some b/\(b=true->Full op l)) ?_ ?_ (λi hi=>by omega) (by omega)
  · intro k hk hp next hn
    show ∃ b,jf.L1 fu _ _ next (k:Int)=some b/\_
    unfold jf.L1
    dsimp only
    rw[if_pos (by omega),abz,ob_some,gU (by omega)]
    by_cases h0:(vl l k).fType=0
    · rw[if_neg (by simpa using h0)];exact⟨_,rfl,λh=>by cases h⟩
    · rw[if_pos (by simpa using h0)]
      exact hn fun i hi=>by
        by_cases e:i=k
        · rw[e];exact h0
        · exact hp i (by omega)
  · intro hp next
    show ∃ b,jf.L1 fu _ _ next (((ar op).1.toNat:Nat):Int)=some b/\_
    unfold jf.L1
    dsimp only
    rw[if_neg (by omega)]
    exact⟨_,rfl,λ_=>⟨by omega,by omega,λi hi=>hp i (by omega)⟩⟩
def A8(t:Int):Int:=if t=1 then 4 else if t=7 then 8 else if t=9 then 1 else 0
theorem Yw{t:Int}:qX fu t=some (A8 t):=by
  unfold qX A8
  by_cases h1:t=1
  · simp[h1]
  · by_cases h2:t=7
    · simp[h2]
    · by_cases h3:t=9 <;> simp[h1,h2,h3]
theorem ale{t:Int}:A8 t=0 ↔ ¬ (t=1∨t=7∨t=9):=by
  unfold A8
  by_cases h1:t=1
  · simp[h1]
  · by_cases h2:t=7
    · simp[h2]
    · by_cases h3:t=9 <;> simp[h1,h2,h3]
theorem aIm{t:Int}:0<A8 t ↔ t=1∨t=7∨t=9:=by
  unfold A8
  by_cases h1:t=1
  · simp[h1]
  · by_cases h2:t=7
    · simp[h2]
    · by_cases h3:t=9 <;> simp[h1,h2,h3]
def nP(c t t0 tp:Int):Bool:=if c=110 then decide (t=1∨t=7)else if c=102 then decide (t=1)else if c=98 then decide (t=9)else if c=105 then decide (t=7)else if c=61 then decide (t=t0)else if c=43 then decide (t=tp)else decide (0<A8 t)
theorem axR{i:Nat}{c:Int}(hc:c=43→1≤i)(hi:i≤100):oK fu ⟨op,s,l,1⟩ (i:Int) c=some (nP c (vl l i).fType (vl l 0).fType (vl l (i - 1)).fType):=by
  unfold oK oK.k1 nP;try unfold jn
  rw[Bq,ob_some]
  by_cases h1:c=110
  · rw[if_pos h1,if_pos h1]
    by_cases h:(vl l i).fType=1
    · rw[if_pos h];simp[h]
    · rw[if_neg h];simp[h]
  rw[if_neg h1,if_neg h1]
  by_cases h2:c=102
  · rw[if_pos h2,if_pos h2]
  rw[if_neg h2,if_neg h2]
  by_cases h3:c=98
  · rw[if_pos h3,if_pos h3]
  rw[if_neg h3,if_neg h3]
  by_cases h4:c=105
  · rw[if_pos h4,if_pos h4]
  rw[if_neg h4,if_neg h4]
  by_cases h5:c=61
  · rw[if_pos h5,if_pos h5,Yi,ob_some]
  rw[if_neg h5,if_neg h5]
  by_cases h6:c=43
  · have:=hc h6
    rw[if_pos h6,if_pos h6,bP (by omega) (by omega),show(i:Int) - 1=((i - 1:Nat):Int)by omega,Bq,ob_some]
  · rw[if_neg h6,if_neg h6,Yw,ob_some]
def lt(op:Int)(i:Nat):Int:=if op<=3 then 110 else if 22<=op/\op<=25 then 98 else if op=33∨op=36 then 102 else if(28<=op/\op<=35)∨(38<=op/\op<=41)∨op=43 then(if i=0 then 110 else 61)else if op=37 then(if i=0 then 97 else 61)else if op=42 then(if i=0 then 98 else if i=1 then 97 else 43)else if op=21∨op=44 then 97 else 102
theorem asB{op:Int}:lt op 0≠43:=by
  unfold lt
  repeat' split
  all_goals first|decide|omega
def XA(op:Int):Bool:=match dC 0 op with
  |some S=>(List.range 3).all λi=>decide (sat? S (xY (i:Int) (wk .i64 ((S.size:Int) - 1)))=some (lt op i))
  |none=>false
theorem ap8(h:lK op): ∃ S,dC fu op=some S∧ ∀ i:Nat,i<3→sat? S (xY (i:Int) (wk .i64 ((S.size:Int) - 1)))=some (lt op i):=by
  have h1:XA op=true:=Ud (P:=λop=>XA op=true) (by decide+kernel) h
  have h2:dC fu op=dC 0 op:=rfl
  unfold XA at h1
  rw[h2]
  cases hs:dC 0 op with
  |none=>rw[hs]at h1;cases h1
  | some S=>
    rw[hs]at h1
    refine⟨S,rfl,λi hi=> ?_⟩
    have:=List.all_eq_true.1 h1 i (List.mem_range.2 hi)
    simpa using this
def TY(op:Int)(l:List aQ)(i:Nat):Prop:=(vl l i).fType≠0->qP (vl l i).fType/\nP (lt op i) (vl l i).fType (vl l 0).fType (vl l (i - 1)).fType=true
theorem anN(h:lK op)(hl:l.length≤3)(hf:20<fu): ∃ b,ja fu ⟨op,s,l,1⟩=some b∧(b=true→ ∀ i:Nat,i<l.length→TY op l i):=by
  obtain⟨S,hS,hL⟩:=ap8 (fu:=fu) h
  have h52: ¬ op=52:=by have:=h.2;omega
  unfold ja;try unfold jn
  show ∃ b,(dC fu op).bind _=some b/\_
  rw[hS,ob_some]
  unfold ja.W1
  refine yf (body:=λnext s_1=>_) l.length (λk=>(k:Int)) (λk=> ∀ i:Nat,i<k->TY op l i) (λr=> ∃ b,r=some b/\(b=true-> ∀ i:Nat,i<l.length->TY op l i)) ?_ ?_ (λi hi=>by omega) (by omega)
  · intro k hk hp next hn
    show ∃ b,ja.L1 fu _ _ next (k:Int)=some b/\_
    unfold ja.L1
    dsimp only
    rw[if_pos (by omega),abz,ob_some,gU (by omega)]
    have step:TY op l k→ ∃ b,next ((k+1:Nat):Int)=some b∧(b=true→ ∀ i:Nat,i<l.length→TY op l i):=fun ht=>hn fun i hi=>by
      by_cases e:i=k
      · rw[e];exact ht
      · exact hp i (by omega)
    by_cases h0:(vl l k).fType=0
    · rw[if_neg (by simpa using h0)];exact step λhh=>absurd h0 hh
    · rw [if_pos (by simpa using h0),Bq,ob_some,Yw,ob_some]
      by_cases hw:(vl l k).fType=1∨(vl l k).fType=7∨(vl l k).fType=9
      · rw[if_neg (fun hh=>ale.1 hh hw),hL k (by omega),ob_some,axR (by
          intro hh
          rcases Nat.eq_zero_or_pos k with hk0|hk0
          · subst hk0;exact absurd hh asB
          · exact hk0) (by omega),ob_some]
        by_cases hv:nP (lt op k) (vl l k).fType (vl l 0).fType (vl l (k - 1)).fType=true
        · rw[if_pos hv];exact step λ_=>⟨hw,hv⟩
        · rw[if_neg hv];exact⟨_,rfl,λh=>by cases h⟩
      · rw[if_pos (ale.2 hw)];exact⟨_,rfl,λh=>by cases h⟩
  · intro hp next
    show ∃ b,ja.L1 fu _ _ next ((l.length:Nat):Int)=some b/\_
    unfold ja.L1 ja.k1
    dsimp only
    rw[if_neg (by omega),if_neg h52]
    exact⟨_,rfl,λ_=>hp⟩
def AT(op:Int)(s:T_Setting)(l:List aQ):Prop:=(op=32->s.fFmod=true∨(vl l 0).fType=7)/\(op=44->qP s.fTo)
theorem asb(h:lK op): ∃ b,kX fu ⟨op,s,l,1⟩=some b∧(b=true→AT op s l):=by
  have h1:=h.2
  unfold kX kX.k1 kX.k2 zI;try unfold jn
  rw[abp,ob_some,ob_some]
  dsimp only
  by_cases h32:op=32
  · rw[if_pos h32]
    by_cases hm:s.fFmod=true
    · rw[if_pos hm];exact⟨_,rfl,λ_=>⟨λ_=> .inl hm,λhh=>by omega⟩⟩
    · rw[if_neg hm,Yi,ob_some];exact⟨_,rfl,λhh=>⟨λ_=> .inr (by simpa using hh),λhh=>by omega⟩⟩
  rw[if_neg h32]
  by_cases h44:op=44
  · rw[if_pos h44,Yw,ob_some]
    exact⟨_,rfl,λhh=>⟨λhh=>absurd hh h32,λ_=>aIm.1 (by simpa using hh)⟩⟩
  rw[if_neg h44,if_neg (by omega),if_neg (by omega),if_neg (by omega),if_neg (by omega),if_neg (by omega),if_neg (by omega),if_neg (by omega),if_neg (by omega),if_neg (by omega),if_neg (by omega),if_neg (by omega),if_neg (by omega),if_neg (by omega),if_neg (by omega),if_neg (by omega),if_neg (by omega),if_neg (by omega),if_neg (by omega),if_neg (by omega),if_neg (by omega),if_neg (by omega)]
  exact⟨_,rfl,λ_=>⟨λhh=>absurd hh h32,λhh=>absurd hh h44⟩⟩
theorem aDZ(h:lK op):o7 fu ⟨op,s,l,1⟩=some []:=by
  have h1:=h.2
  unfold o7 o7.k1;try unfold jn
  dsimp only
  rw[if_neg (by omega),if_neg (by omega),if_neg (by omega),if_neg (by omega),if_neg (by omega),if_neg (by omega),if_neg (by omega),if_neg (by omega),if_neg (by omega),if_neg (by omega)]
theorem axe(h:lK op)(hf:4<fu):y9 fu ⟨op,s,l,1⟩=some 0:=by
  obtain⟨q,rfl⟩: ∃ q,fu=q+1:=⟨fu - 1,by omega⟩
  unfold y9
  rw[aDZ h,ob_some]
  have h49: ¬ op=49:=by have:=h.2;omega
  have hc: ∀ p:aQ->Option Bool,qj (q+1) [] p=some false:=λp=>rfl
  rw[hc,ob_some,if_neg (by decide),hc,ob_some,if_neg (by decide)]
  show((if op=49 then none else _):Option Int)=_
  rw[if_neg h49,hc,ob_some,if_neg (by decide)]
theorem alf{d:List Int}(gd:Good d)(hf:20<fu):eU fu d=some (ah d,0):=by
  rw[sU (by have:=gd.1;unfold Short;omega) (by have:=gd.1;omega)]
  simp only[mD,if_pos gd]
theorem ajQ:Good []:=by
  unfold Good
  exact⟨by decide,λx hx=>absurd hx (by simp),by decide⟩
theorem aB8(h:lK op)(hl:l.length≤3)(hg: ∀ v ∈ l,Good v.fDims)(hf:20<fu): ∃ e,jl fu ⟨op,s,l,1⟩=some e∧(e=0→AT op s l∧ ∀ i:Nat,i<l.length→TY op l i):=by
  unfold jl jl.W1;try unfold jn
  refine yf (body:=λnext s_1=>_) l.length (λk=>(k:Int)) (λ_=>True) (λr=> ∃ e,r=some e/\(e=0->AT op s l/\ ∀ i:Nat,i<l.length->TY op l i)) ?_ ?_ trivial (by omega)
  · intro k hk hp next hn
    show ∃ b,jl.L1 fu _ next (k:Int)=some b/\_
    unfold jl.L1
    dsimp only
    rw[if_pos (by omega),at?_nat,List.getElem?_eq_getElem hk,ob_some,alf (hg _ (List.getElem_mem hk)) hf,ob_some,abz,ob_some,gU (by omega)]
    split
    · rw[if_pos rfl];exact hn trivial
    · exact hn trivial
  · intro hp next
    show ∃ b,jl.L1 fu _ next ((l.length:Nat):Int)=some b/\_
    unfold jl.L1 jl.k1
    dsimp only
    rw[if_neg (by omega)]
    obtain⟨b,hb,ht⟩:=anN (s:=s) h hl hf
    rw[hb,ob_some]
    by_cases hb1:b=true
    · rw[if_pos hb1]
      obtain⟨c,hc,ha⟩:=asb (fu:=fu) (s:=s) (l:=l) h
      rw[hc,ob_some]
      by_cases hc1:c=true
      · rw[if_pos hc1,axe h (by omega),ob_some]
        exact⟨_,rfl,λ_=>⟨ha hc1,ht hb1⟩⟩
      · rw[if_neg hc1];exact⟨_,rfl,λh=>absurd h (by decide)⟩
    · rw[if_neg hb1];exact⟨_,rfl,λh=>absurd h (by decide)⟩
theorem acZ{a b:List Int}(h:(dX a b).2=0):Good (dX a b).1:=by
  unfold dX at h ⊢
  by_cases h1:Good a
  · by_cases h2:Good b
    · simp only[if_pos h1,if_pos h2]at h ⊢
      cases hl:bc a b with
      |none=>rw[hl]at h;exact absurd h (by decide)
      | some l=>
        rw[hl]at h
        simp only at h ⊢
        by_cases h3:Good l
        · rw[if_pos h3];exact h3
        · rw[if_neg h3]at h;exact absurd h (nO _)
    · simp only[if_pos h1,if_neg h2]at h;exact absurd h (nO _)
  · simp only[if_neg h1]at h;exact absurd h (nO _)
theorem apw{a b:List Int}(ga:Good a)(gb:Good b)(h:(dX a b).2=0):bc a b=some (dX a b).1∧Good (dX a b).1:=by
  refine⟨?_,acZ h⟩
  simp only[dX,if_pos ga,if_pos gb]at h ⊢
  cases hl:bc a b with
  |none=>rw[hl]at h;exact absurd h (by decide)
  | some l=>
    rw[hl]at h
    simp only at h ⊢
    by_cases h3:Good l
    · rw[if_pos h3]
    · rw[if_neg h3]at h;exact absurd h (nO _)
theorem Dl{a d:List Int}(ga:Good a)(gd:Good d)(h:bc a d=some d):dX a d=(d,0):=by
  simp only[dX,if_pos ga,if_pos gd,h]
theorem ahT: ∀ {a b:List Int},a.length=b.length→qE b a→gK a b=some a
  |[],[],_,_=>rfl
  | x ::a,y::b,h,f=>by
    have ih:=ahT (a:=a) (b:=b) (by simpa using h) f.2
    unfold gK
    have:=f.1
    by_cases h1:x=1
    · rcases this with e|e
      · simp[h1,e,ih]
      · subst h1;simp[e,ih]
    · rcases this with e|e
      · simp[h1,e,ih]
      · simp[h1,e,ih]
theorem ajV: ∀ {a b c:List Int},a.length=b.length→b.length=c.length→qE a b→qE b c→qE a c
  |[],[],[],_,_,_,_=>trivial
  | x ::a,y::b,z::c,h1,h2,f,g=>by
    refine⟨?_,ajV (by simpa using h1) (by simpa using h2) f.2 g.2⟩
    rcases f.1 with e|e
    · exact .inl e
    · rcases g.1 with e2|e2
      · exact .inl (e.trans e2)
      · exact .inr (e.trans e2)
theorem aj9: ∀ (k:Nat) {a b:List Int},a.length=b.length→qE a b→qE (a.drop k) (b.drop k)
  |0,_,_,_,f=>f
  |k+1,[],[],_,_=>trivial
  |k+1,x::a,y::b,h,f=>aj9 k (by simpa using h) f.2
theorem anB{x a r:List Int}(gx:Good x)(ga:Good a)(gr:Good r)(h1:dX x a=(a,0))(h2:dX a r=(r,0)):dX x r=(r,0):=by
  obtain⟨l1,_,f1⟩:=Q8 gx ga h1
  obtain⟨l2,_,f2⟩:=Q8 ga gr h2
  refine Dl gx gr ?_
  have f3:qE x (r.drop (r.length - x.length)):=by
    have f4:=aj9 (a.length - x.length) (by simp;omega) f2
    rw[List.drop_drop,show r.length - a.length+(a.length - x.length)=r.length - x.length by omega]at f4
    exact ajV (by simp;omega) (by simp;omega) f1 f4
  have hz:=ahT (a:=r.drop (r.length - x.length)) (b:=x) (by simp;omega) f3
  have:bc r x=some r:=by
    unfold bc
    rw[if_neg (by omega)]
    unfold bc'
    rw[hz]
    simp[List.take_append_drop]
  rw[Ru];exact this
def TG(op:Int):Prop:=op=23∨op=24∨op=25∨(28<=op/\op<=35)∨(37<=op/\op<=42)
theorem iQ{α:Type}{c:Prop}[Decidable c]{A B:α}(h: ¬ c→B=A):(if c then A else B)=A:=by
  by_cases hc:c
  · rw[if_pos hc]
  · rw[if_neg hc];exact h hc
instance {op:Int}:Decidable (TG op):=by unfold TG;infer_instance
theorem arq(hn:1≤l.length)(hl:l.length≤3)(hg: ∀ i,Good (vl l i).fDims)(hf:20<fu): ∃ l' e,je fu ⟨op,s,l,1⟩=some (l',e)∧(e=0→ ∃ d,l'=[d]∧Good d∧ ∀ i:Nat,i<l.length→dX (vl l i).fDims d=(d,0)):=by
  unfold je;try unfold jn
  rw[abp,ob_some]
  unfold je.W1
  have self: ∀ {d:List Int},Good d→dX d d=(d,0):=fun {d} gd=>by
    refine Dl gd gd ?_
    unfold bc bc'
    rw[if_neg (by omega),Nat.sub_self]
    simp[Ig]
  have key: ∀ (m k:Nat) (acc:List Int),1≤k→k≤l.length→l.length - k<m→Good acc→(∀ i:Nat,i<k→dX (vl l i).fDims acc=(acc,0))→
      ∃ l' e,bz (λnext s_1=>je.L1 fu ⟨op,s,l,1⟩ (λx7 x8=>next (x7,x8)) s_1.1 s_1.2) m (acc,(k:Int))=some (l',e)/\(e=0-> ∃ d,l'=[d]/\Good d/\ ∀ i:Nat,i<l.length->dX (vl l i).fDims d=(d,0)):=by
    intro m
    induction m with
    |zero=>intro k _ _ _ h;omega
    | succ m ih=>
      intro k acc h1 h2 h3 ga hp
      rw[nY]
      show ∃ l' e,je.L1 fu _ _ acc (k:Int)=some (l',e)/\_
      unfold je.L1
      dsimp only
      by_cases hk:k<l.length
      · have gk:=hg k
        rw[if_pos (by omega),Pz,ob_some,abt (by have:=ga.1;unfold Short;omega) (by have:=gk.1;unfold Short;omega) (by have:=ga.1;omega) (by have:=gk.1;omega) (by omega),ob_some,gU (by omega)]
        by_cases h0:(dX acc (vl l k).fDims).2=0
        · rw[if_pos h0]
          obtain⟨q1,q2⟩:=apw ga gk h0
          obtain⟨w1,w2,w3,_⟩:=JW q1
          refine ih (k+1) _ (by omega) (by omega) (by omega) q2 λi hi=> ?_
          by_cases e:i=k
          · rw[e];exact Dl gk q2 w2
          · exact anB (hg i) ga q2 (hp i (by omega)) (Dl ga q2 (by rw[Ru];exact w1))
        · rw[if_neg h0];exact⟨_,_,rfl,λh=>absurd h h0⟩
      · rw[if_neg (by omega)]
        exact⟨_,_,rfl,λ_=>⟨acc,rfl,ga,λi hi=>hp i (by omega)⟩⟩
  exact key fu 1 _ (by omega) hn (by omega) (hg 0) fun i hi=>by
    obtain rfl:i=0:=by omega
    exact self (hg 0)
def SH(op:Int)(l:List aQ)(d:List Int):Prop:=Good d/\(op≠43-> ∀ i:Nat,i<l.length->dX (vl l i).fDims d=(d,0))/\(op=43->(vl l 1).fDims=[]/\(vl l 2).fDims=[])/\(¬ TG op->d=(vl l 0).fDims)
theorem azd(h:lK op)(hF:Full op l)(hg: ∀ i,Good (vl l i).fDims)(hf:20<fu): ∃ l' e,dB fu ⟨op,s,l,1⟩=some (l',e)∧(e=0→ ∃ d,l'=[d]∧SH op l d):=by
  have h3:=FV h
  have self: ∀ {d:List Int},Good d→dX d d=(d,0):=fun {d} gd=>by
    refine Dl gd gd ?_
    unfold bc bc'
    rw[if_neg (by omega),Nat.sub_self]
    simp[Ig]
  have hn1:1<=l.length:=by have:=hF.1;omega
  have hn3:l.length<=3:=by have:=hF.2.1;omega
  have e0:dB fu ⟨op,s,l,1⟩=if TG op then(je fu ⟨op,s,l,1⟩).bind fun x5=>some (x5.1,x5.2)else if op=36 then((kz fu ⟨op,s,l,1⟩ 1).bind fun x6=>(zA fu x6 (vl l 0).fDims).bind fun x7=>if x7=0 then(dB.k1 fu (vl l 0).fDims)else some ([],x7))else if op=43 then((kz fu ⟨op,s,l,1⟩ 1).bind fun x8=>(kz fu ⟨op,s,l,1⟩ 2).bind fun x9=>if 0<(wk .i64 ((x8.length:Int)+(x9.length:Int)))then((zM fu).bind fun x10=>some (x10.1,x10.2))else dB.k1 fu (vl l 0).fDims)else dB.k1 fu (vl l 0).fDims:=by
    have h1:=h.1
    have h2:=h.2
    unfold dB;try unfold jn
    rw[abp,ob_some]
    dsimp only
    by_cases ht:TG op
    · rw[if_pos ht]
      have e:dB.k2 fu ⟨op,s,l,1⟩ (vl l 0).fDims true=(je fu ⟨op,s,l,1⟩).bind λx5=>some (x5.1,x5.2):=rfl
      rw[← e]
      have ht':op=23∨op=24∨op=25∨(28<=op/\op<=35)∨(37<=op/\op<=42):=ht
      clear e
      exact iQ λ_=>iQ λ_=>iQ λ_=>iQ λ_=>iQ λ_=>iQ λ_=>iQ λ_=>iQ λ_=>iQ λ_=>iQ λ_=>iQ λ_=>iQ λ_=>iQ λ_=>iQ λ_=>iQ λ_=>iQ λ_=>congrArg (dB.k2 fu _ _) (decide_eq_true (by omega))
    · rw[if_neg ht]
      have ht':op≠23/\op≠24/\op≠25/\ ¬ (28<=op/\op<=35)/\ ¬ (37<=op/\op<=42):=by unfold TG at ht;omega
      rw[if_neg (by omega),if_neg (by omega),if_neg (by omega),if_neg (by omega),if_neg (by omega),if_neg (by omega),if_neg (by omega),if_neg (by omega),if_neg (by omega),if_neg (by omega),if_neg (by omega),if_neg (by omega),if_neg (by omega),if_neg (by omega),if_neg (by omega),if_neg (by omega),decide_eq_false (by omega)]
      unfold dB.k2 dB.k3 dB.k4;try unfold jn
      rw[if_neg (by decide)]
      dsimp only
      by_cases h36:op=36
      · rw[if_pos h36,if_pos h36]
      rw[if_neg h36,if_neg h36]
      by_cases h43:op=43
      · rw[if_pos h43,if_pos h43]
      rw[if_neg h43,if_neg h43]
      repeat rw[if_neg (by omega)]
  rw[e0]
  by_cases ht:TG op
  · rw[if_pos ht]
    obtain⟨l',e,hT,hd⟩:=arq (fu:=fu) (op:=op) (s:=s) hn1 hn3 hg hf
    rw[hT,ob_some]
    refine⟨l',e,rfl,λhe=> ?_⟩
    obtain⟨d,q1,q2,q3⟩:=hd he
    exact⟨d,q1,q2,λ_=>q3,λh=>by unfold TG at ht;omega,λhh=>absurd ht hh⟩
  rw[if_neg ht]
  by_cases h36:op=36
  · rw [if_pos h36,agZ,ob_some]
    have ga:=hg 1
    have gb:=hg 0
    unfold zA
    rw[abt (by have:=ga.1;unfold Short;omega) (by have:=gb.1;unfold Short;omega) (by have:=ga.1;omega) (by have:=gb.1;omega) (by omega),ob_some]
    by_cases h4:(dX (vl l 1).fDims (vl l 0).fDims).2=4
    · rw[if_pos h4,ob_some,if_neg (by rw[h4];decide)]
      exact⟨_,_,rfl,λh=>absurd (h4.symm.trans h) (by decide)⟩
    rw[if_neg h4]
    by_cases h0:(dX (vl l 1).fDims (vl l 0).fDims).2=0
    · have gd:=acZ h0
      rw[if_pos h0,akc (by have:=gd.1;unfold Short;omega) (by have:=gd.1;omega),ob_some]
      by_cases he:(dX (vl l 1).fDims (vl l 0).fDims).1=(vl l 0).fDims
      · rw[if_pos (by simpa using he),ob_some,if_pos rfl]
        refine⟨_,_,rfl,λ_=>⟨_,rfl,gb,λ_ i hi=> ?_,λh=>by omega,λ_=>rfl⟩⟩
        have h2:l.length<=2:=by have:=hF.2.1;rw[h36,show(ar 36).2=2 from rfl]at this;omega
        rcases(by omega:i=0∨i=1)with rfl|rfl
        · exact self gb
        · exact Prod.ext he h0
      · rw[if_neg (by simpa using he),ob_some,if_neg (by decide)]
        exact⟨_,_,rfl,λh=>absurd h (by decide)⟩
    · rw[if_neg h0,ob_some,if_neg (by decide)]
      exact⟨_,_,rfl,λh=>absurd h (by decide)⟩
  rw[if_neg h36]
  by_cases h43:op=43
  · rw[if_pos h43,agZ,ob_some,aEM,ob_some,bP (by have:=(hg 1).1;have:=(hg 2).1;omega) (by have:=(hg 1).1;have:=(hg 2).1;omega)]
    by_cases hp:0<((vl l 1).fDims.length:Int)+((vl l 2).fDims.length:Int)
    · rw[if_pos hp]
      exact⟨_,_,rfl,λh=>absurd (show(3:Int)=0 from h) (by decide)⟩
    · rw[if_neg hp]
      refine⟨_,_,rfl,λ_=>⟨_,rfl,hg 0,λh=>absurd h43 h,λ_=>⟨List.length_eq_zero_iff.1 (by omega),List.length_eq_zero_iff.1 (by omega)⟩,λ_=>rfl⟩⟩
  rw[if_neg h43]
  refine⟨_,_,rfl,λ_=>⟨_,rfl,hg 0,λ_ i hi=> ?_,λh=>absurd h h43,λ_=>rfl⟩⟩
  have h1:l.length≤1:=by
    have:=hF.2.1
    unfold ar at this
    unfold TG at ht
    rw[if_neg (by omega),if_neg h43,if_neg (by omega)]at this
    omega
  obtain rfl:i=0:=by omega
  exact self (hg 0)
def dR(op:Int)(s:T_Setting)(l:List aQ):Int:=if(22<=op/\op<=27)∨(37<=op/\op<=41)then 9 else if op=44 then s.fTo else if op=42 then(vl l 1).fType else(vl l 0).fType
theorem aAn(h:lK op):fZ fu ⟨op,s,l,1⟩=some (dR op s l):=by
  have h1:=h.1
  have h2:=h.2
  unfold fZ fZ.k2 fZ.k3 fZ.k1 dR;try unfold jn
  dsimp only
  rw[Yi,aGB,ob_some,ob_some]
  by_cases h9:(22<=op/\op<=27)∨(37<=op/\op<=41)
  · rw[if_pos h9]
    exact iQ λ_=>iQ λ_=>iQ λ_=>iQ λ_=>iQ λ_=>iQ λ_=>iQ λ_=>iQ λ_=>iQ λ_=>iQ λ_=>if_pos (decide_eq_true (by omega))
  · rw[if_neg h9,if_neg (by omega),if_neg (by omega),if_neg (by omega),if_neg (by omega),if_neg (by omega),if_neg (by omega),if_neg (by omega),if_neg (by omega),if_neg (by omega),if_neg (by omega),decide_eq_false (by omega),if_neg (by decide),if_neg (by omega),if_neg (by omega),if_neg (by omega),if_neg (by omega)]
    by_cases h44:op=44
    · rw[if_pos h44,if_pos h44]
    rw[if_neg h44,if_neg h44,if_neg (by omega)]
    by_cases h42:op=42
    · rw[if_pos h42,if_pos h42]
    rw[if_neg h42,if_neg h42]
structure Qy (op:Int) (s:T_Setting) (l:List aQ) (d:List Int):Prop where
  full:Full op l
  attr:AT op s l
  ty: ∀ i:Nat,i<l.length->TY op l i
  sh:SH op l d
theorem aE3(h:lK op)(hg: ∀ i,Good (vl l i).fDims)(hg2: ∀ v ∈ l,Good v.fDims)(hf:20<fu):
    (∃ d,Qy op s l d/\jG fu op s l 1=some ([vZ (dR op s l) d],0))∨ ∃ l' e,e≠0/\jG fu op s l 1=some (l',e):=by
  have h3:=FV h
  unfold jG
  obtain⟨b,hb,hB⟩:=aqt (fu:=fu) (s:=s) (l:=l) h hf
  rw[hb,ob_some]
  by_cases hb1:b=true
  · rw [if_pos hb1]
    have hF:=hB hb1
    obtain⟨e,he,hE⟩:=aB8 (fu:=fu) (s:=s) h (by have:=hF.2.1;omega) hg2 hf
    rw[he,ob_some]
    by_cases he0:e=0
    · rw [if_pos he0]
      obtain⟨l',e',hs,hS⟩:=azd (fu:=fu) (s:=s) h hF hg hf
      rw[hs,ob_some]
      dsimp only
      by_cases he1:e'=0
      · rw[if_pos he1]
        obtain⟨d,rfl,hsh⟩:=hS he1
        have gd:=hsh.1
        refine .inl ⟨d,⟨hF,(hE he0).1,(hE he0).2,hsh⟩,?_⟩
        unfold jG.W1
        obtain⟨q,hq⟩: ∃ q,fu=q+2:=⟨fu - 2,by omega⟩
        have hcl:slices_Clone_int fu d=some d:=aaY (II gd)
        have key: ∀ n,bz (fun next s_1=>jG.L1 fu op s l 1 ([d],e') (fun x12 x13=>next (x12,x13)) s_1.1 s_1.2) (n+2) ([],0)=some ([vZ (dR op s l) d],0):=by
          intro n
          rw[nY]
          show jG.L1 fu op s l 1 _ _ [] 0=_
          rw[jG.L1,if_pos (by simp),show at? ([d],e').1 (0:Int)=some d from rfl,ob_some,alf gd hf,ob_some,if_pos rfl,aAn h,ob_some,hcl,ob_some,aU (by decide),show wk .i64 ((0:Int)+1)=1 by decide,nY]
          show jG.L1 fu op s l 1 _ _ _ 1=_
          rw[jG.L1,if_neg (by simp)]
          rfl
        have:=key q
        rwa[← hq]at this
      · rw[if_neg he1];exact .inr ⟨_,_,he1,rfl⟩
    · rw[if_neg he0];exact .inr ⟨_,_,he0,rfl⟩
  · rw[if_neg hb1];exact .inr ⟨_,1,by decide,rfl⟩
end
end Go.Av
namespace Go.Av
theorem zT{x:Int}(h0:0≤x)(h1:x<18446744073709551616):wk .u64 x=x:=by
  have:wk .u64 x=x%18446744073709551616:=by simp[wk,IntKind.wrap,IntKind.signed,IntKind.bits]
  rw[this,Int.emod_eq_of_lt h0 h1]
theorem XB{x:Int}(h0:0≤x)(h1:x<4294967296):wk .u32 x=x:=by
  have:wk .u32 x=x%4294967296:=by simp[wk,IntKind.wrap,IntKind.signed,IntKind.bits]
  rw[this,Int.emod_eq_of_lt h0 h1]
theorem FY{i j:Nat}(h:i<=j):(2:Nat) ^ i<=2 ^ j:=Nat.pow_le_pow_right (by decide) h
theorem VF{k:Nat}(hk:k<=64):min ((k:Nat):Int).toNat IntKind.u64.bits=k:=by simp[IntKind.bits];omega
theorem Ya(k:Nat):((2 ^ k:Nat):Int)=(2:Int) ^ k:=by rw[Int.natCast_pow];rfl
theorem Xh{a n:Nat}:(a:Int).fdiv ((2:Int) ^ n)=((a / 2 ^ n:Nat):Int):=by
  rw[← Ya,Int.fdiv_eq_ediv_of_nonneg _ (Int.natCast_nonneg _)]
  exact(Int.natCast_ediv a (2 ^ n)).symm
theorem QE{a k:Nat}{b:Nat}(ha:a<2 ^ b)(hk:b<=k):a / 2 ^ k=0:=Nat.div_eq_of_lt (Nat.lt_of_lt_of_le ha (FY hk))
theorem NH{a k:Nat}(h:a<18446744073709551616):aZ .u64 (a:Int) (k:Int)=((a / 2 ^ k:Nat):Int):=by
  unfold aZ
  rw[Xh]
  by_cases hk:k<=64
  · rw[VF hk]
  · rw[show min ((k:Nat):Int).toNat IntKind.u64.bits=64 by simp[IntKind.bits];omega,QE (b:=64) (by simpa using h) (Nat.le_refl _),QE (b:=64) (by simpa using h) (by omega)]
def aif(T:ByteArray):Bool:=(List.range 256).all fun i=>match sat? T (i:Int)with
  |some n=>decide (0<=n)&&decide (n<=8)&&decide (i<2 ^ n.toNat)&&(decide (n=0) || decide (2 ^ (n.toNat - 1)<=i))
  |none=>false
theorem alF{T:ByteArray}(h:aif T=true){i:Nat}(hi:i<256): ∃ n:Nat,sat? T (i:Int)=some (n:Int)∧n≤8∧i<2 ^ n∧(n=0∨2 ^ (n - 1)≤i):=by
  have:=List.all_eq_true.1 h i (List.mem_range.2 hi)
  split at this
  · rename_i n hn
    simp only[Bool.and_eq_true,decide_eq_true_eq,Bool.or_eq_true]at this
    obtain⟨⟨⟨a,b⟩,c⟩,d⟩:=this
    refine⟨n.toNat,by rw[hn,Int.toNat_of_nonneg a],by omega,c,?_⟩
    rcases d with d|d
    · exact .inl (by omega)
    · exact .inr d
  · cases this
def Bits(x n:Nat):Prop:=x<2 ^ n/\(n=0∨2 ^ (n - 1)<=x)
theorem Bits.shift{x n k:Nat}(h:Bits (x / 2 ^ k) n)(h0:2 ^ k≤x):Bits x (k+n):=by
  have hk:0<2 ^ k:=Nat.pos_of_ne_zero (by simp)
  obtain⟨h1,h2⟩:=h
  have h3:1<=x / 2 ^ k:=(Nat.le_div_iff_mul_le hk).2 (by omega)
  refine⟨?_,.inr ?_⟩
  · rw[Nat.pow_add]
    have h:=(Nat.div_lt_iff_lt_mul hk).1 h1
    rw[Nat.mul_comm];exact h
  · rcases h2 with h2|h2
    · subst h2;simp at h1;omega
    · by_cases hn:n=0
      · subst hn;simp at h1;omega
      · rw[show k+n - 1=(n - 1)+k by omega,Nat.pow_add]
        exact(Nat.le_div_iff_mul_le hk).1 h2
theorem agU{fu x c:Nat}(hx:x<65536)(hc:c≤1000): ∃ n:Nat,ig.k2 fu (x:Int) (c:Int)=some ((c+n:Nat):Int)∧Bits x n∧n≤16:=by
  unfold ig.k2
  generalize hT:(ByteArray.mk _:ByteArray)=T
  have hok:aif T=true:=by subst hT;kernel_rfl
  clear hT
  by_cases h:256<=x
  · rw[if_pos (by omega),show((8:Int))=((8:Nat):Int)from rfl,NH (by omega)]
    have h8:x / 2 ^ 8<256:=by omega
    obtain⟨n,e1,e2,e3,e4⟩:=alF hok h8
    have hw:wk .u8 ((x / 2 ^ 8:Nat):Int)=((x / 2 ^ 8:Nat):Int):=by
      have: ∀ z:Int,wk .u8 z=z%256:=λz=>by simp[wk,IntKind.wrap,IntKind.signed,IntKind.bits]
      rw[this,Int.emod_eq_of_lt (by omega) (by omega)]
    rw[hw,e1,ob_some]
    refine⟨8+n,?_,Bits.shift ⟨e3,e4⟩ (by omega),by omega⟩
    rw[bP (x:=((c:Nat):Int)+((8:Nat):Int)) (by omega) (by omega),bP (x:=((n:Nat):Int)) (by omega) (by omega),bP (by omega) (by omega)]
    congr 1
    omega
  · rw[if_neg (by omega)]
    have hw:wk .u8 ((x:Nat):Int)=((x:Nat):Int):=by
      have: ∀ z:Int,wk .u8 z=z%256:=λz=>by simp[wk,IntKind.wrap,IntKind.signed,IntKind.bits]
      rw[this,Int.emod_eq_of_lt (by omega) (by omega)]
    obtain⟨n,e1,e2,e3,e4⟩:=alF hok (i:=x) (by omega)
    refine⟨n,?_,⟨e3,e4⟩,by omega⟩
    rw[hw,e1,ob_some,bP (x:=((n:Nat):Int)) (by omega) (by omega),bP (by omega) (by omega)]
    congr 1
theorem acg{fu x c:Nat}(hx:x<4294967296)(hc:c≤100): ∃ n:Nat,ig.k1 fu (x:Int) (c:Int)=some ((c+n:Nat):Int)∧Bits x n∧n≤32:=by
  unfold ig.k1;try unfold jn
  by_cases h:65536<=x
  · rw[if_pos (by omega),show((16:Int))=((16:Nat):Int)from rfl,NH (by omega)]
    obtain⟨n,e1,e2,e3⟩:=agU (fu:=fu) (x:=x / 2 ^ 16) (c:=c+16) (by omega) (by omega)
    refine⟨16+n,?_,e2.shift (by omega),by omega⟩
    rw[bP (x:=((c:Nat):Int)+((16:Nat):Int)) (by omega) (by omega),show((c:Nat):Int)+((16:Nat):Int)=((c+16:Nat):Int)by omega,e1]
    congr 1;omega
  · rw[if_neg (by omega)]
    obtain⟨n,e1,e2,e3⟩:=agU (fu:=fu) (x:=x) (c:=c) (by omega) (by omega)
    exact⟨n,e1,e2,by omega⟩
theorem zW{fu x:Nat}(hx:x<18446744073709551616): ∃ n:Nat,ig fu (x:Int)=some (n:Int)∧Bits x n∧n≤64:=by
  unfold ig;try unfold jn
  by_cases h:4294967296<=x
  · rw[if_pos (by omega),show((32:Int))=((32:Nat):Int)from rfl,NH (by omega)]
    obtain⟨n,e1,e2,e3⟩:=acg (fu:=fu) (x:=x / 2 ^ 32) (c:=32) (by omega) (by omega)
    exact⟨32+n,e1,e2.shift (by omega),by omega⟩
  · rw[if_neg (by omega),show((0:Int))=((0:Nat):Int)from rfl]
    obtain⟨n,e1,e2,e3⟩:=acg (fu:=fu) (x:=x) (c:=0) (by omega) (by omega)
    exact⟨n,by rw[e1];congr 1;omega,e2,by omega⟩
theorem Bf{fu:Nat}{b:Bool}: ∃ r,jA fu b=some r:=by unfold jA;split <;> exact⟨_,rfl⟩
theorem aDL{fu:Nat}{b:Bool}: ∃ r,wV fu 0 b=some r:=by
  obtain⟨s,hs⟩:=Bf (fu:=fu) (b:=b)
  unfold wV zH
  rw[aU rfl,aU rfl,ob_some,hs,ob_some]
  exact⟨_,rfl⟩
theorem ah7{fu:Nat}{b:Bool}: ∃ r,mZ fu 0 b=some r:=by
  obtain⟨s,hs⟩:=Bf (fu:=fu) (b:=b)
  unfold mZ mZ.k1;try unfold jn
  rw[aU rfl,hs,ob_some]
  exact⟨_,rfl⟩
theorem ap9{fu:Nat}{a:Bool}{b c d:Int}: ∃ r,bT.k3 fu a b c d=some r:=by
  obtain⟨s,hs⟩:=Bf (fu:=fu) (b:=a)
  obtain⟨u,hu⟩:=ah7 (fu:=fu) (b:=a)
  unfold bT.k3
  rw[hs,hu]
  simp only[ob_some]
  repeat' split
  all_goals exact⟨_,rfl⟩
theorem RG{fu:Nat}{a e f g:Bool}{b c d:Int}: ∃ r,bT.k2 fu a b c d e f g=some r:=by
  unfold bT.k2;try unfold jn
  repeat' split
  all_goals exact ap9
theorem awl{fu:Nat}{a e f:Bool}{b c d:Int}: ∃ r,bT.k4 fu a b c e d f=some r:=by
  unfold bT.k4
  repeat' split
  all_goals exact RG
theorem aMz{fu:Nat}{a e:Bool}{b c:Int}{n:Nat}(hn:n≤64)(hb: -300≤b)(hb2:b≤200): ∃ r,bT.k1 fu a b c e (n:Int)=some r:=by
  unfold bT.k1;try unfold jn
  have e1:wk .i64 ((n:Int) - 24)=(n:Int) - 24:=bP (by omega) (by omega)
  have e2:wk .i64 (-149 - b)= -149 - b:=bP (by omega) (by omega)
  rw[e1,e2]
  have h1:(n:Int) - 24<=gu ((n:Int) - 24) (-149 - b):=by unfold gu;split <;> omega
  have h2:gu ((n:Int) - 24) (-149 - b)<=151:=by unfold gu;split <;> omega
  generalize gu ((n:Int) - 24) (-149 - b)=m at h1 h2
  split
  · rw[aU (by rw[bP (by omega) (by omega)];omega)]
    exact RG
  · split
    · exact RG
    · rw[aU (by omega),aU (by rw[bP (by omega) (by omega)];omega)]
      repeat' split
      all_goals exact awl
theorem lM{fu:Nat}{a e:Bool}{b c:Int}(h0:0≤c)(h1:c<18446744073709551616): ∃ r,bT fu 0 a b c e=some r:=by
  obtain⟨k,rfl⟩:=Int.eq_ofNat_of_zero_le h0
  obtain⟨n,hn,_,hn2⟩:=zW (fu:=fu) (x:=k) (by omega)
  obtain⟨s,hs⟩:=Bf (fu:=fu) (b:=a)
  obtain⟨u,hu⟩:=ah7 (fu:=fu) (b:=a)
  obtain⟨v,hv⟩:=aDL (fu:=fu) (b:=a)
  unfold bT;try unfold jn
  rw[aU rfl,hn,ob_some,hs,hu,hv]
  simp only[ob_some]
  split
  · split <;> exact⟨_,rfl⟩
  · split
    · exact⟨_,rfl⟩
    · split
      · exact⟨_,rfl⟩
      · exact aMz hn2 (by omega) (by omega)
theorem gW(x:Int):0≤wk .u64 x∧wk .u64 x<18446744073709551616:=by
  have:wk .u64 x=x%18446744073709551616:=by simp[wk,IntKind.wrap,IntKind.signed,IntKind.bits]
  rw[this];omega
theorem PX{fu:Nat}{x:Int}: ∃ r,nT fu x=some r∧ -150≤r.fexp∧r.fexp≤200:=by
  have hb:0≤band .u32 (aZ .u32 x 23) 255∧band .u32 (aZ .u32 x 23) 255≤255:=by
    unfold band
    rw[show IntKind.u32.bits=32 from rfl,BitVec.toNat_and]
    have h:(BitVec.ofInt 32 (aZ .u32 x 23)).toNat &&& (BitVec.ofInt 32 255).toNat<=255:=Nat.le_trans Nat.and_le_right (by decide)
    have hw:=XB (x:=(((BitVec.ofInt 32 (aZ .u32 x 23)).toNat &&& (BitVec.ofInt 32 255).toNat:Nat):Int)) (by omega) (by omega)
    unfold wk at hw
    rw[hw]
    omega
  unfold nT
  rw[bP (x:=band .u32 (aZ .u32 x 23) 255) (by omega) (by omega)]
  generalize band .u32 (aZ .u32 x 23) 255=q at hb
  split
  · exact⟨_,rfl,by show(-150:Int)<=0;omega,by show(0:Int)<=200;omega⟩
  · split
    · exact⟨_,rfl,by show(-150:Int)<= -149;omega,by show(-149:Int)<=200;omega⟩
    · refine⟨_,rfl,?_,?_⟩
      · show -150≤wk .i64 (q - 150)
        rw[bP (by omega) (by omega)];omega
      · show wk .i64 (q - 150)≤200
        rw[bP (by omega) (by omega)];omega
theorem qW{fu:Nat}{x y:Int}: ∃ r,iI fu x y=some r:=by
  obtain⟨a,ha,_,_⟩:=PX (fu:=fu) (x:=x)
  obtain⟨b,hb,_,_⟩:=PX (fu:=fu) (x:=y)
  obtain⟨s,hs⟩:=Bf (fu:=fu) (b:= !(a.fneg==b.fneg))
  obtain⟨r,hr⟩:=lM (fu:=fu) (a:= !(a.fneg==b.fneg)) (e:=false) (b:=wk .i64 (a.fexp+b.fexp)) (gW (a.fsig*b.fsig)).1 (gW _).2
  unfold iI qg qg.k1;try unfold jn
  rw[aU rfl,ha,ob_some,hb,ob_some,hs,hr]
  simp only[ob_some]
  repeat' split
  all_goals exact⟨_,rfl⟩
theorem alj{fu:Nat}: ∃ r,wH fu 0=some r:=by
  obtain⟨s,hs⟩:=Bf (fu:=fu) (b:=decide ((0:Int)=2))
  unfold wH
  rw[aU rfl,hs,ob_some]
  exact⟨_,rfl⟩
theorem afg{fu:Nat}{a b c:Bool}{x y z:Int}: ∃ r,gp.k3 fu a b x y z c=some r:=by
  obtain⟨s,hs⟩:=alj (fu:=fu)
  obtain⟨r1,h1⟩:=lM (fu:=fu) (a:=a) (e:=c) (b:=x) (gW (y+z)).1 (gW _).2
  obtain⟨r2,h2⟩:=lM (fu:=fu) (a:=a) (e:=true) (b:=x) (gW (wk .u64 (y - z) - 1)).1 (gW _).2
  obtain⟨r3,h3⟩:=lM (fu:=fu) (a:=a) (e:=false) (b:=x) (gW (y - z)).1 (gW _).2
  obtain⟨r4,h4⟩:=lM (fu:=fu) (a:=b) (e:=false) (b:=x) (gW (z - y)).1 (gW _).2
  unfold gp.k3
  rw[hs,h1,h2,h3,h4]
  simp only[ob_some]
  repeat' split
  all_goals exact⟨_,rfl⟩
theorem ach{fu:Nat}{a b:Bool}{x y z w:Int}(h:z≤x)(h1: -1000≤z)(h2:x≤1000): ∃ r,gp.k2 fu a x y b z w=some r:=by
  unfold gp.k2;try unfold jn
  rw[bP (x:=x - z) (by omega) (by omega)]
  split
  · rw[aU (by omega)];exact afg
  · rw[aU (by rw[bP (by omega) (by omega)];omega)];exact afg
theorem aqR{fu:Nat}{p q:gI}(h1: -150≤p.fexp)(h2:p.fexp≤200)(h3: -150≤q.fexp)(h4:q.fexp≤200): ∃ r,gp.k1 fu p q=some r:=by
  unfold gp.k1;try unfold jn
  split
  · exact ach (by omega) (by omega) (by omega)
  · exact ach (by omega) (by omega) (by omega)
theorem wX{fu:Nat}{x y:Int}: ∃ r,kL fu x y=some r:=by
  obtain⟨a,ha,a1,a2⟩:=PX (fu:=fu) (x:=x)
  obtain⟨b,hb,b1,b2⟩:=PX (fu:=fu) (x:=y)
  obtain⟨s,hs⟩:=alj (fu:=fu)
  obtain⟨r,hr⟩:=aqR (fu:=fu) a1 a2 b1 b2
  unfold kL gp;try unfold jn
  rw[aU rfl,ha,ob_some,hb,ob_some,hs,hr]
  simp only[ob_some]
  repeat' split
  all_goals exact⟨_,rfl⟩
theorem awV{fu:Nat}{x y:Int}:iI fu x y=iI 0 x y:=rfl
theorem aIe{fu:Nat}{x y:Int}:kL fu x y=kL 0 x y:=rfl
def Dy(x y:Int):Int:=(iI 0 x y).getD 0
def ajU(x y:Int):Int:=(kL 0 x y).getD 0
theorem Gx{fu:Nat}{x y:Int}:iI fu x y=some (Dy x y):=by
  rw[awV];unfold Dy
  obtain⟨r,hr⟩:=qW (fu:=0) (x:=x) (y:=y)
  rw[hr];rfl
theorem aoG{fu:Nat}{x y:Int}:kL fu x y=some (ajU x y):=by
  rw[aIe];unfold ajU
  obtain⟨r,hr⟩:=wX (fu:=0) (x:=x) (y:=y)
  rw[hr];rfl
end Go.Av
namespace Go.Av
theorem X7{x m:Int}(h0:0≤m)(h1:m<4294967296):0≤band .u32 x m∧band .u32 x m≤m:=by
  unfold band
  rw[show IntKind.u32.bits=32 from rfl,BitVec.toNat_and]
  have e:(BitVec.ofInt 32 m).toNat=m.toNat:=by rw[BitVec.toNat_ofInt];omega
  have h:(BitVec.ofInt 32 x).toNat &&& (BitVec.ofInt 32 m).toNat<=m.toNat:=by rw[e];exact Nat.and_le_right
  have hw:=XB (x:=(((BitVec.ofInt 32 x).toNat &&& (BitVec.ofInt 32 m).toNat:Nat):Int)) (by omega) (by omega)
  unfold wk at hw
  rw[hw]
  omega
theorem Ie{a:Int}(h0:0≤a)(h1:a≤8388607):0≤gy .u64 a 8388608∧gy .u64 a 8388608<16777216:=by
  unfold gy
  rw[show IntKind.u64.bits=64 from rfl,BitVec.toNat_or]
  have e:(BitVec.ofInt 64 a).toNat=a.toNat:=by rw[BitVec.toNat_ofInt];omega
  have e2:(BitVec.ofInt 64 8388608).toNat=8388608:=by decide
  have h:(BitVec.ofInt 64 a).toNat ||| (BitVec.ofInt 64 8388608).toNat<2 ^ 24:=by
    rw[e,e2];exact Nat.or_lt_two_pow (by omega) (by decide)
  have hw:=zT (x:=(((BitVec.ofInt 64 a).toNat ||| (BitVec.ofInt 64 8388608).toNat:Nat):Int)) (by omega) (by omega)
  unfold wk at hw
  rw[hw]
  omega
theorem aiK{fu:Nat}{x:Int}: ∃ r,nT fu x=some r∧0≤r.fsig∧r.fsig<16777216:=by
  obtain⟨b0,b1⟩:=X7 (x:=x) (m:=8388607) (by decide) (by decide)
  unfold nT
  rw[zT (x:=band .u32 x 8388607) b0 (by omega)]
  split
  · exact⟨_,rfl,Int.le_refl _,by show(0:Int)<16777216;decide⟩
  · split
    · exact⟨_,rfl,b0,by show band .u32 x 8388607<_;omega⟩
    · exact⟨_,rfl,(Ie b0 b1).1,(Ie b0 b1).2⟩
theorem amx{fu:Nat}{p:gI}(h0:0≤p.fsig)(h1:p.fsig<16777216)(hz:p.fsig≠0): ∃ r,wR fu p=some r∧r.fsig≠0:=by
  obtain⟨k,hk⟩:=Int.eq_ofNat_of_zero_le h0
  obtain⟨n,hn,⟨hb1,hb2⟩,_⟩:=zW (fu:=fu) (x:=k) (by omega)
  have h24:n≤24:=by
    rcases hb2 with h|h
    · omega
    · rcases Nat.lt_or_ge 24 n with hh|hh
      · have:=FY (i:=24) (j:=n - 1) (by omega)
        have e:(2:Nat) ^ 24=16777216:=by decide
        omega
      · exact hh
  unfold wR
  rw[hk,hn,ob_some,bP (x:=24 - (n:Int)) (by omega) (by omega),aU (by omega)]
  refine⟨_,rfl,?_⟩
  show bY .u64 (k:Int) (24 - (n:Int))≠0
  have hm:(24 - (n:Int))=((24 - n:Nat):Int):=by omega
  unfold bY
  rw[hm,VF (by omega),← Ya,← Int.natCast_mul]
  have hlt:k*2 ^ (24 - n)<2 ^ 24:=by
    have:=Nat.mul_lt_mul_of_pos_right hb1 (Nat.pow_pos (n:=24 - n) (show 0<2 by decide))
    rw[← Nat.pow_add,show n+(24 - n)=24 by omega]at this
    exact this
  have hpos:0<k*2 ^ (24 - n):=Nat.mul_pos (by omega) (Nat.pow_pos (by decide))
  have e:(2:Nat) ^ 24=16777216:=by decide
  have hw:=zT (x:=((k*2 ^ (24 - n):Nat):Int)) (by omega) (by omega)
  unfold wk at hw
  rw[hw]
  omega
theorem aKM{fu:Nat}{p q:gI}(h0:0≤p.fsig)(h1:p.fsig<16777216)(hz:p.fsig≠0)(g0:0≤q.fsig)(g1:q.fsig<16777216)(gz:q.fsig≠0): ∃ r,jk.k2 fu p q=some r:=by
  obtain⟨a,ha,_⟩:=amx (fu:=fu) (p:=⟨p.fneg,false,false,p.fexp,p.fsig⟩) h0 h1 hz
  obtain⟨b,hb,hb2⟩:=amx (fu:=fu) (p:=⟨q.fneg,false,false,q.fexp,q.fsig⟩) g0 g1 gz
  unfold jk.k2
  rw[ha,ob_some,hb,ob_some,aU hb2]
  obtain⟨r,hr⟩:=lM (fu:=fu) (a:= !(p.fneg==q.fneg)) (e:= !(decide ((Int.tmod (bY .u64 a.fsig 38) b.fsig)=0))) (b:=wk .i64 ((wk .i64 (a.fexp - b.fexp)) - 38)) (gW (Int.tdiv (bY .u64 a.fsig 38) b.fsig)).1 (gW _).2
  rw[hr]
  exact⟨_,rfl⟩
theorem LG{fu:Nat}{p q:gI}{x7 x6:Bool}{x8 x9:Bool}(h0:0≤p.fsig)(h1:p.fsig<16777216)(hz:x8=false→x6=false→p.fsig≠0)(g0:0≤q.fsig)(g1:q.fsig<16777216)(gz:x9=false→x7=false→q.fsig≠0): ∃ r,jk.k1 fu p q x6 x7 x8 x9=some r:=by
  obtain⟨s,hs⟩:=Bf (fu:=fu) (b:= !(p.fneg==q.fneg))
  unfold jk.k1;try unfold jn
  rw[hs]
  simp only[ob_some]
  cases x6 <;> cases x7 <;> cases x8 <;> cases x9 <;> simp only[if_true,if_false,reduceCtorEq]
  all_goals repeat' split
  all_goals first|exact⟨_,rfl⟩|exact aKM h0 h1 (hz rfl rfl) g0 g1 (gz rfl rfl)
theorem Fj{fu:Nat}{x y:Int}: ∃ r,qm fu x y=some r:=by
  obtain⟨p,hp,p0,p1⟩:=aiK (fu:=fu) (x:=x)
  obtain⟨q,hq,q0,q1⟩:=aiK (fu:=fu) (x:=y)
  have hk: ∃ r,jk fu 0 x y=some r:=by
    unfold jk;try unfold jn
    rw[aU rfl,hp,ob_some,hq,ob_some]
    split
    · split
      · exact LG p0 p1 (by simp) q0 q1 (by simp)
      · exact LG p0 p1 (by simp) q0 q1 (by simp)
    · split
      · exact LG p0 p1 (by simp) q0 q1 (by simp)
      · exact LG p0 p1 (by simp) q0 q1 (by simp)
  obtain⟨r,hr⟩:=hk
  unfold qm
  rw[hr]
  exact⟨_,rfl⟩
end Go.Av
set_option linter.unusedSimpArgs false
namespace Go.Av
theorem aCU{a k:Nat}(h:a<4294967296):aZ .u32 (a:Int) (k:Int)=((a / 2 ^ k:Nat):Int):=by
  unfold aZ
  rw[Xh]
  by_cases hk:k<=32
  · rw[show min ((k:Nat):Int).toNat IntKind.u32.bits=k by simp[IntKind.bits];omega]
  · rw[show min ((k:Nat):Int).toNat IntKind.u32.bits=32 by simp[IntKind.bits];omega,QE (b:=32) (by simpa using h) (Nat.le_refl _),QE (b:=32) (by simpa using h) (by omega)]
theorem akd{n a:Nat}(h:a<2 ^ n):(BitVec.ofInt n (a:Int)).toNat=a:=by
  rw[BitVec.toNat_ofInt]
  have:((a:Int)%((2 ^ n:Nat):Int))=a:=Int.emod_eq_of_lt (by omega) (by omega)
  rw[this];rfl
theorem ap4{a b:Nat}(ha:a<4294967296)(hb:b<4294967296):band .u32 (a:Int) (b:Int)=((a &&& b:Nat):Int):=by
  unfold band
  rw[show IntKind.u32.bits=32 from rfl,BitVec.toNat_and,akd (by simpa using ha),akd (by simpa using hb)]
  have:a &&& b<=a:=Nat.and_le_left
  exact XB (by omega) (by omega)
theorem aeO{a j:Nat}(hj:j≤32)(ha:a<4294967296):band .u32 (a:Int) ((2 ^ j - 1:Nat):Int)=((a%2 ^ j:Nat):Int):=by
  have:(2:Nat) ^ j<=2 ^ 32:=FY hj
  rw[ap4 ha (by omega),Nat.and_two_pow_sub_one_eq_mod]
def Word(x:Int):Prop:=0<=x/\x<4294967296
def lD(x:Int):Bool:=(dV 0 x).getD false
def jL(x:Int):Int:=(qZ 0 x).getD 0
theorem iT{fu:Nat}{x:Int}:dV fu x=some (lD x):=rfl
theorem Rw{fu:Nat}{x:Int}:qZ fu x=some (jL x):=by
  unfold jL qZ iU
  simp only[ob_some]
  split <;> rfl
def JH(x y:Int):Bool:= !lD x&& !lD y&&decide (jL x=jL y)
theorem HY{fu:Nat}{x y:Int}:mP fu x y=some (JH x y):=by
  unfold mP JH
  rw[iT,ob_some,iT,ob_some,Rw,Rw,ob_some,ob_some]
  cases lD x <;> cases lD y <;> simp
def JG(x y:Int):Bool:= !lD x&& !lD y&&decide (jL x<jL y)
theorem yM{fu:Nat}{x y:Int}:iM fu x y=some (JG x y):=by
  unfold iM JG
  rw[iT,ob_some,iT,ob_some,Rw,Rw,ob_some,ob_some]
  cases lD x <;> cases lD y <;> simp
def acR(x y:Int):Int:=if lD x || lD y then 2143289344 else if jL x=jL y then gy .u32 x y else if jL y<jL x then y else x
def ahG(x y:Int):Int:=if lD x || lD y then 2143289344 else if jL x=jL y then band .u32 x y else if jL x<jL y then y else x
theorem agY{fu:Nat}{x y:Int}:rZ fu x y=some (acR x y):=by
  unfold rZ acR
  rw[iT,ob_some,iT,ob_some,HY,ob_some,yM,ob_some]
  unfold JH JG
  cases lD x <;> cases lD y <;> by_cases h1:jL x=jL y <;> by_cases h2:jL y<jL x <;> simp[h1,h2]
theorem afQ{fu:Nat}{x y:Int}:pM fu x y=some (ahG x y):=by
  unfold pM ahG
  rw[iT,ob_some,iT,ob_some,HY,ob_some,yM,ob_some]
  unfold JH JG
  cases lD x <;> cases lD y <;> by_cases h1:jL x=jL y <;> by_cases h2:jL x<jL y <;> simp[h1,h2]
def cnV(x:Int):Int:=if lD x=true then 2143289344 else x
theorem aG2{fu:Nat}{x:Int}:pW fu x=some (cnV x):=by
  unfold pW cnV
  rw[iT,ob_some]
  split <;> rfl
end Go.Av
set_option linter.unusedSimpArgs false
namespace Go.Av
theorem ahU{τ β:Type}{body:(τ→Option β)→τ→Option β}(Inv:τ→Prop)(μ:τ→Nat)
    (h: ∀ s,Inv s-> ∀ next:τ->Option β,(∀ s',Inv s'->μ s'<μ s-> ∃ r,next s'=some r)-> ∃ r,body next s=some r): ∀ n s,Inv s->μ s<n-> ∃ r,bz body n s=some r:=by
  intro n
  induction n with
  |zero=>intro s _ hm;omega
  | succ n ih=>
    intro s hs hm
    exact h s hs _ λs' h1 h2=>ih s' h1 (by omega)
theorem Gf{fu:Nat}{x:Int}:lH fu x=some (yY .u32 x 2147483648):=rfl
theorem axg{fu:Nat}{x y:Int}: ∃ r,gp fu 0 x y=some r:=by
  obtain⟨r,hr⟩:=wX (fu:=fu) (x:=x) (y:=y)
  unfold kL at hr
  cases h:gp fu 0 x y with
  |none=>rw[h]at hr;cases hr
  |some q=>exact⟨q,rfl⟩
theorem QN{fu:Nat}{x y:Int}: ∃ r,rV fu x y=some r:=by
  unfold rV
  rw[Gf,ob_some]
  obtain⟨r,hr⟩:=axg (fu:=fu) (x:=x) (y:=yY .u32 y 2147483648)
  rw[hr];exact⟨_,rfl⟩
theorem BV{fu:Nat}{x:Int}:iU fu x=some (uM .u32 x 2147483648):=rfl
theorem qi{fu:Nat}{x:Int}:jb fu x=some (decide (uM .u32 x 2147483648=2139095040)):=rfl
theorem wW{fu:Nat}{x:Int}: ∃ r,nG fu x=some r∧ -149≤r.fexp∧r.fexp≤105∧0≤r.fsig∧r.fsig<16777216:=by
  obtain⟨a0,a1⟩:=X7 (x:=aZ .u32 x 23) (m:=255) (by decide) (by decide)
  obtain⟨b0,b1⟩:=X7 (x:=x) (m:=8388607) (by decide) (by decide)
  unfold nG
  rw[bP (x:=band .u32 (aZ .u32 x 23) 255) (by omega) (by omega),zT (x:=band .u32 x 8388607) b0 (by omega),bP (x:=band .u32 (aZ .u32 x 23) 255 - 150) (by omega) (by omega)]
  split
  · exact⟨_,rfl,by show(-149:Int)<= -149;decide,by show(-149:Int)<=105;decide,b0,by show band .u32 x 8388607<_;omega⟩
  · exact⟨_,rfl,by show -149<=band .u32 (aZ .u32 x 23) 255 - 150;omega,by show band .u32 (aZ .u32 x 23) 255 - 150<=105;omega,(Ie b0 b1).1,(Ie b0 b1).2⟩
theorem Ic{x k:Int}(h0:0≤x)(h1:x<18446744073709551616):0≤aZ .u64 x k∧aZ .u64 x k≤x:=by
  obtain⟨n,rfl⟩:=Int.eq_ofNat_of_zero_le h0
  unfold aZ
  rw[Xh]
  exact⟨Int.natCast_nonneg _,by exact_mod_cast Nat.div_le_self _ _⟩
theorem asN{fu:Nat}{a c:Bool}{b:Int}: ∃ r,yQ fu a b c=some r:=by
  unfold yQ
  repeat' split
  all_goals exact⟨_,rfl⟩
theorem ade{fu:Nat}{p:dQ}{c:Int}(h0:0≤c)(h1:c<18446744073709551616): ∃ r,fM.k3 fu p c=some r:=by
  unfold fM.k3
  obtain⟨r,hr⟩:=lM (fu:=fu) (a:=p.fneg) (e:=false) (b:=0) h0 h1
  rw[hr];exact⟨_,rfl⟩
theorem MB{fu:Nat}{p:dQ}{c:Int}(h0:0≤p.fsig)(h1:p.fsig<16777216): ∃ r,fM.k2 fu p c=some r:=by
  unfold fM.k2;try unfold jn
  obtain⟨b,hb⟩:=asN (fu:=fu) (a:=p.fneg) (b:=c) (c:=decide ((band .u64 (aZ .u64 p.fsig (wk .i64 (0 - p.fexp))) 1)=1))
  obtain⟨s0,s1⟩:=Ic (x:=p.fsig) (k:=wk .i64 (0 - p.fexp)) h0 (by omega)
  rw[hb,ob_some]
  split
  · exact ade (gW _).1 (gW _).2
  · exact ade s0 (by omega)
theorem GH{fu:Nat}{x:Int}: ∃ r,fM fu x=some r:=by
  obtain⟨p,hp,e0,e1,s0,s1⟩:=wW (fu:=fu) (x:=x)
  unfold fM;try unfold jn
  rw[iT,ob_some,hp,ob_some,qi,ob_some]
  split
  · exact⟨_,rfl⟩
  · split
    · exact⟨_,rfl⟩
    · split
      · exact⟨_,rfl⟩
      · rename_i hn
        split
        · exact⟨_,rfl⟩
        · unfold fM.k1;try unfold jn
          have hw:wk .i64 (0 - p.fexp)=0 - p.fexp:=bP (by omega) (by omega)
          have hw2:wk .i64 (wk .i64 (0 - p.fexp) - 1)=0 - p.fexp - 1:=by rw[hw];exact bP (by omega) (by omega)
          rw[aU (by rw[hw];omega)]
          split
          · exact⟨_,rfl⟩
          · split
            · rw[aU (by rw[hw2];omega)]
              split
              · exact MB s0 s1
              · split
                · exact MB s0 s1
                · exact MB s0 s1
            · exact MB s0 s1
theorem afh{fu:Nat}{x k:Int}: ∃ r,nK fu x k=some r:=by
  obtain⟨p,hp,e0,e1,s0,s1⟩:=wW (fu:=fu) (x:=x)
  unfold nK nK.k1;try unfold jn
  obtain⟨r,hr⟩:=lM (fu:=fu) (a:=p.fneg) (e:=false) (b:=wk .i64 (p.fexp+(gu (-1000) (xY k 1000)))) s0 (by omega)
  rw[iT,ob_some,hp,ob_some,qi,ob_some,hr]
  repeat' split
  all_goals exact⟨_,rfl⟩
theorem akU{fu:Nat}{n:Int}: ∃ r,vW fu n=some r:=by
  have hk: ∃ r,yR fu 0 n=some r:=by
    unfold yR
    split
    · obtain⟨r,hr⟩:=lM (fu:=fu) (a:=true) (e:=false) (b:=0) (gW (0 - wk .u64 n)).1 (gW _).2
      rw[hr];exact⟨_,rfl⟩
    · obtain⟨r,hr⟩:=lM (fu:=fu) (a:=false) (e:=false) (b:=0) (gW n).1 (gW _).2
      rw[hr];exact⟨_,rfl⟩
  obtain⟨r,hr⟩:=hk
  unfold vW
  rw[hr]
  exact⟨_,rfl⟩
theorem ad4{fu:Nat}{p:dQ}{c:Int}: ∃ r,kK.k1 fu p c=some r:=by
  unfold kK.k1
  split <;> exact⟨_,rfl⟩
theorem KF{fu:Nat}{x:Int}: ∃ r,kK fu x=some r:=by
  obtain⟨p,hp,e0,e1,s0,s1⟩:=wW (fu:=fu) (x:=x)
  unfold kK;try unfold jn
  rw[iT,ob_some,hp,ob_some,BV,ob_some]
  split
  · exact⟨_,rfl⟩
  · split
    · split <;> exact⟨_,rfl⟩
    · split
      · rename_i h
        rw[aU h];exact ad4
      · rename_i h
        rw[aU (by rw[bP (by omega) (by omega)];omega)];exact ad4
theorem anL{fu:Nat}{x:Int}: ∃ r,ou fu x=some r:=by
  unfold ou ou.k1;try unfold jn
  obtain⟨r,hr⟩:=afh (fu:=fu) (x:=x) (k:=24)
  rw[hr]
  split <;> exact⟨_,rfl⟩
def xq(w:bU):Prop:=(0<=w.fhigh/\w.fhigh<18446744073709551616)/\0<=w.flow/\w.flow<18446744073709551616
theorem ZR{x k:Int}:0<=bY .u64 x k/\bY .u64 x k<18446744073709551616:=gW _
theorem akV{fu:Nat}{x k:Int}(h0:0≤x)(h1:x<18446744073709551616)(k0: -5000≤k)(k1:k≤5000): ∃ r,wS fu x k=some r∧xq r.1:=by
  have z:(0:Int)<18446744073709551616:=by decide
  unfold wS
  split
  · rw[aU (by rw[bP (by omega) (by omega)];omega)]
    exact⟨_,rfl,ZR,Int.le_refl _,z⟩
  · split
    · rw[aU (by rw[bP (by omega) (by omega)];omega),aU (by omega)]
      have:=Ic (x:=x) (k:=wk .i64 (64 - k)) h0 h1
      exact⟨_,rfl,⟨this.1,by show aZ .u64 x _<_;omega⟩,ZR⟩
    · split
      · exact⟨_,rfl,⟨Int.le_refl _,z⟩,h0,h1⟩
      · split
        · exact⟨_,rfl,⟨Int.le_refl _,z⟩,Int.le_refl _,z⟩
        · rw[aU (by rw[bP (by omega) (by omega)];omega)]
          have:=Ic (x:=x) (k:=wk .i64 (0 - k)) h0 h1
          exact⟨_,rfl,⟨Int.le_refl _,z⟩,this.1,by show aZ .u64 x _<_;omega⟩
theorem aMt{fu:Nat}{a b:bU}(ha:xq a)(hb:xq b): ∃ r,xW fu a b=some r∧xq r:=by
  obtain⟨⟨a1,a2⟩,a3,a4⟩:=ha
  obtain⟨⟨b1,b2⟩,b3,b4⟩:=hb
  unfold xW
  rw[aU ⟨a3,b3,by decide,by decide⟩,aU ⟨a1,b1,by omega,by omega⟩]
  refine⟨_,rfl,⟨?_,?_⟩,?_,?_⟩
  · exact Int.emod_nonneg _ (by decide)
  · exact Int.emod_lt_of_pos _ (by decide)
  · exact Int.emod_nonneg _ (by decide)
  · exact Int.emod_lt_of_pos _ (by decide)
theorem Qb{fu:Nat}{a b:bU}(ha:xq a)(hb:xq b): ∃ r,sN fu a b=some r∧xq r:=by
  obtain⟨⟨a1,a2⟩,a3,a4⟩:=ha
  obtain⟨⟨b1,b2⟩,b3,b4⟩:=hb
  unfold sN
  rw[aU ⟨a3,⟨b3,b4⟩,by decide,by decide⟩,aU ⟨a1,⟨b1,b2⟩,by split <;> decide,by split <;> decide⟩]
  refine⟨_,rfl,⟨?_,?_⟩,?_,?_⟩
  · exact Int.emod_nonneg _ (by decide)
  · exact Int.emod_lt_of_pos _ (by decide)
  · exact Int.emod_nonneg _ (by decide)
  · exact Int.emod_lt_of_pos _ (by decide)
theorem EC{a b:Int}:0<=gy .u64 a b/\gy .u64 a b<18446744073709551616:=gW _
theorem aKY{fu:Nat}{a:bU}{n l:Bool}{e:Int}(ha:xq a): ∃ r,ru fu a 0 n e l=some r:=by
  obtain⟨⟨a1,a2⟩,a3,a4⟩:=ha
  obtain⟨k,hk⟩:=Int.eq_ofNat_of_zero_le a1
  obtain⟨m,hm,_,hm2⟩:=zW (fu:=fu) (x:=k) (by omega)
  unfold ru
  rw[hk,hm,ob_some]
  split
  · obtain⟨r,hr⟩:=lM (fu:=fu) (a:=n) (e:=l) (b:=e) a3 a4
    rw[hr];exact⟨_,rfl⟩
  · rw[aU (by rw[bP (by omega) (by omega)];omega),aU (by omega)]
    split
    · obtain⟨r,hr⟩:=lM (fu:=fu) (a:=n) (e:=true) (b:=wk .i64 (e+m)) (EC (a:=bY .u64 (k:Int) (wk .i64 (64 - m))) (b:=aZ .u64 a.flow m)).1 EC.2
      rw[hr];exact⟨_,rfl⟩
    · obtain⟨r,hr⟩:=lM (fu:=fu) (a:=n) (e:= !(decide ((bY .u64 a.flow (wk .i64 (64 - m)))=0))) (b:=wk .i64 (e+m)) (EC (a:=bY .u64 (k:Int) (wk .i64 (64 - m))) (b:=aZ .u64 a.flow m)).1 EC.2
      rw[hr];exact⟨_,rfl⟩
theorem Tu{fu:Nat}{b:Bool}: ∃ r,rH fu b=some r:=by
  unfold rH
  split <;> exact⟨_,rfl⟩
theorem aGZ{fu:Nat}{a b:bU}: ∃ r,yA fu a b=some r:=by
  unfold yA
  repeat' split
  all_goals exact⟨_,rfl⟩
theorem ah1{fu:Nat}{p q:Bool}{e g s t:Int}(he: -2000≤e∧e≤2000)(hg: -2000≤g∧g≤2000)(hs:0≤s∧s<18446744073709551616)(ht:0≤t∧t<18446744073709551616): ∃ r,nI.k1 fu 0 p e s q g t=some r:=by
  obtain⟨k,hk⟩:=Int.eq_ofNat_of_zero_le hs.1
  obtain⟨m,hm,_,hm2⟩:=zW (fu:=fu) (x:=k) (by omega)
  unfold nI.k1
  rw[← hk]at hm
  have w1:wk .i64 (e+(m:Int))=e+m:=bP (by omega) (by omega)
  have w2:wk .i64 (e+(m:Int) - 126)=e+m - 126:=bP (by omega) (by omega)
  rw[hm,ob_some]
  simp only[w1,w2]
  have w3:wk .i64 (e - (e+(m:Int) - 126))=126 - m:=by rw[bP (by omega) (by omega)];omega
  have w4:wk .i64 (g - (e+(m:Int) - 126))=g - (e+m - 126):=bP (by omega) (by omega)
  rw[w3,w4]
  obtain⟨a,ha,oa⟩:=akV (fu:=fu) (x:=s) (k:=126 - (m:Int)) hs.1 hs.2 (by omega) (by omega)
  obtain⟨b,hb,ob⟩:=akV (fu:=fu) (x:=t) (k:=g - (e+(m:Int) - 126)) ht.1 ht.2 (by omega) (by omega)
  rw[ha,ob_some,hb,ob_some]
  have key: ∀ (w:bU) (n l:Bool) (x:Int),xq w→ ∃ r,((ru fu w 0 n x l).bind fun z=>some z)=some r:=fun w n l x hw=>by
    obtain⟨r,hr⟩:=aKY (fu:=fu) (n:=n) (l:=l) (e:=x) hw
    rw[hr];exact⟨_,rfl⟩
  split
  · obtain⟨c,hc,oc⟩:=aMt (fu:=fu) oa ob
    rw[hc,ob_some];exact key _ _ _ _ oc
  · split
    · obtain⟨c,hc,oc⟩:=Qb (fu:=fu) oa ob
      obtain⟨d,hd,od⟩:=Qb (fu:=fu) (b:=⟨0,1⟩) oc ⟨⟨by decide,by decide⟩,by decide,by decide⟩
      rw[hc,ob_some,hd,ob_some];exact key _ _ _ _ od
    · split
      · obtain⟨c,hc⟩:=Tu (fu:=fu) (b:=decide ((0:Int)=2))
        rw[hc];exact⟨_,rfl⟩
      · obtain⟨l,hl⟩:=aGZ (fu:=fu) (a:=a.1) (b:=b.1)
        rw[hl,ob_some]
        split
        · obtain⟨c,hc,oc⟩:=Qb (fu:=fu) ob oa
          rw[hc,ob_some];exact key _ _ _ _ oc
        · obtain⟨c,hc,oc⟩:=Qb (fu:=fu) oa ob
          rw[hc,ob_some];exact key _ _ _ _ oc
theorem axo{fu:Nat}{p q:dQ}(he: -2000≤p.fexp∧p.fexp≤2000)(hg: -2000≤q.fexp∧q.fexp≤2000)(hs:0≤p.fsig∧p.fsig<18446744073709551616)(ht:0≤q.fsig∧q.fsig<18446744073709551616): ∃ r,nI fu 0 p q=some r:=by
  obtain⟨k,hk⟩:=Int.eq_ofNat_of_zero_le hs.1
  obtain⟨m,hm,_⟩:=zW (fu:=fu) (x:=k) (by omega)
  obtain⟨k',hk'⟩:=Int.eq_ofNat_of_zero_le ht.1
  obtain⟨m',hm',_⟩:=zW (fu:=fu) (x:=k') (by omega)
  rw[← hk]at hm
  rw[← hk']at hm'
  unfold nI;try unfold jn
  rw[hm',ob_some,hm,ob_some]
  split
  · exact ah1 hg he ht hs
  · exact ah1 he hg hs ht
theorem aE9{fu:Nat}{a b c:Int}: ∃ r,iP.k2 fu 0 a b c=some r:=by
  obtain⟨x,hx,x0,x1,x2,x3⟩:=wW (fu:=fu) (x:=a)
  obtain⟨y,hy,y0,y1,y2,y3⟩:=wW (fu:=fu) (x:=b)
  obtain⟨z,hz,z0,z1,z2,z3⟩:=wW (fu:=fu) (x:=c)
  unfold iP.k2;try unfold jn
  rw[hx,ob_some,hy,ob_some,hz,ob_some]
  have w:wk .i64 (x.fexp+y.fexp)=x.fexp+y.fexp:=bP (by omega) (by omega)
  have k3: ∃ r,iP.k3 fu 0 a b x y z=some r:=by
    unfold iP.k3
    obtain⟨r,hr⟩:=axo (fu:=fu) (p:=⟨!(decide ((aZ .u32 a 31)=(aZ .u32 b 31))),wk .i64 (x.fexp+y.fexp),wk .u64 (x.fsig*y.fsig)⟩) (q:=z) ⟨by show -2000<=wk .i64 (x.fexp+y.fexp);omega,by show wk .i64 (x.fexp+y.fexp)<=2000;omega⟩ ⟨by omega,by omega⟩ ⟨(gW _).1,(gW _).2⟩ ⟨z2,by omega⟩
    rw[hr];exact⟨_,rfl⟩
  split
  · split
    · split
      · exact⟨_,rfl⟩
      · obtain⟨r,hr⟩:=Tu (fu:=fu) (b:=decide ((0:Int)=2))
        rw[hr];exact⟨_,rfl⟩
    · exact⟨_,rfl⟩
  · split
    · obtain⟨r,hr⟩:=lM (fu:=fu) (a:= !(decide ((aZ .u32 a 31)=(aZ .u32 b 31)))) (e:=false) (b:=wk .i64 (x.fexp+y.fexp)) (gW (x.fsig*y.fsig)).1 (gW _).2
      rw[hr];exact⟨_,rfl⟩
    · exact k3
theorem akH{fu:Nat}{a b c:Int}{m:Bool}: ∃ r,iP.k1 fu 0 a b c m=some r:=by
  unfold iP.k1;try unfold jn
  obtain⟨s,hs⟩:=Tu (fu:=fu) (b:= !(decide ((aZ .u32 a 31)=(aZ .u32 b 31))))
  obtain⟨q,hq⟩:=aE9 (fu:=fu) (a:=a) (b:=b) (c:=c)
  rw[iT,ob_some,iT,ob_some,iT,ob_some,Gx,ob_some,iT,ob_some,qi,ob_some,hs,hq]
  simp only[ob_some]
  repeat' split
  all_goals exact⟨_,rfl⟩
theorem rQ{fu:Nat}{a b c:Int}: ∃ r,lN fu a b c=some r:=by
  unfold lN iP;try unfold jn
  rw[qi,ob_some,qi,ob_some]
  split
  · obtain⟨r,hr⟩:=akH (fu:=fu) (a:=a) (b:=b) (c:=c) (m:=true)
    rw[hr];exact⟨_,rfl⟩
  · obtain⟨r,hr⟩:=akH (fu:=fu) (a:=a) (b:=b) (c:=c) (m:=decide (uM .u32 b 2147483648=2139095040))
    rw[hr];exact⟨_,rfl⟩
theorem I9{fu:Nat}{z x:Int}{l:List Int}(hl:l.length≤100)(hf:200<fu): ∃ r,kw fu z (x::l)=some r:=by
  unfold kw kw.W1
  rw[show at? (x::l) (0:Int)=some x from rfl,ob_some,aU ⟨by decide,by simp;omega⟩]
  have hs:oZ (x::l) 1 (x::l).length=l:=by unfold oZ;simp
  refine ahU (λs:Int×Int=>0<=s.2/\s.2<=l.length) (λs=>l.length - s.2.toNat) ?_ fu (x,0) ⟨Int.le_refl _,by simp⟩ (by show l.length - 0<fu;omega)
  rintro⟨p,i⟩ ⟨h0,h1⟩ next hn
  simp only at h0 h1 hn ⊢
  unfold kw.L1
  rw[hs]
  obtain⟨k,rfl⟩:=Int.eq_ofNat_of_zero_le h0
  by_cases hk:k<l.length
  · obtain⟨q,hq⟩:=rQ (fu:=fu) (a:=z) (b:=p) (c:=l[k])
    rw[if_pos (by omega),at?_get hk,ob_some,hq,ob_some,gU (by omega)]
    exact hn (q,((k+1:Nat):Int)) ⟨by show(0:Int)<=((k+1:Nat):Int);omega,by show((k+1:Nat):Int)<=_;omega⟩ (by show l.length - ((k+1:Nat):Int).toNat<l.length - ((k:Nat):Int).toNat;omega)
  · rw[if_neg (by omega)];exact⟨_,rfl⟩
theorem afr{fu:Nat}{a b:Int}(hf:200<fu): ∃ r,lX.k1 fu a b=some r:=by
  unfold lX.k1
  obtain⟨x8,h8⟩:=QN (fu:=fu) (x:=a) (y:=1065353216)
  obtain⟨x9,h9⟩:=wX (fu:=fu) (x:=x8) (y:=1073741824)
  obtain⟨x10,h10⟩:=Fj (fu:=fu) (x:=x8) (y:=x9)
  obtain⟨x12,h12⟩:=I9 (fu:=fu) (z:=Dy x10 x10) (x:=1046711865) (l:=[1049774373,1053609165,1059760811,1073741824]) (by decide) hf
  obtain⟨x14,h14⟩:=akU (fu:=fu) (n:=b)
  obtain⟨x15,h15⟩:=rQ (fu:=fu) (a:=x14) (b:=3109978243) (c:=Dy x10 x12)
  obtain⟨x16,h16⟩:=rQ (fu:=fu) (a:=x14) (b:=1060208640) (c:=x15)
  rw[h8,ob_some,h9,ob_some,h10,ob_some,Gx,ob_some,h12,ob_some,Gx,ob_some,h14,ob_some,h15,ob_some,h16]
  exact⟨_,rfl⟩
theorem Xn{fu:Nat}{x:Int}(hf:200<fu): ∃ r,lX fu x=some r:=by
  unfold lX;try unfold jn
  obtain⟨p,hp⟩:=anL (fu:=fu) (x:=x)
  rw[iT,ob_some,BV,ob_some,qi,ob_some,hp,ob_some,yM,ob_some,aoG,ob_some]
  split
  · exact⟨_,rfl⟩
  · split
    · exact⟨_,rfl⟩
    · split
      · split
        · exact⟨_,rfl⟩
        · split
          · exact afr hf
          · exact afr hf
      · exact⟨_,rfl⟩
theorem Bg{fu:Nat}{x:Int}(hf:200<fu): ∃ r,o8 fu x=some r:=by
  unfold o8
  obtain⟨x6,h6⟩:=GH (fu:=fu) (x:=Dy x 1069066811)
  obtain⟨x9,h9⟩:=rQ (fu:=fu) (a:=x6) (b:=yY .u32 1060208640 2147483648) (c:=x)
  obtain⟨x10,h10⟩:=rQ (fu:=fu) (a:=x6) (b:=yY .u32 3109978243 2147483648) (c:=x9)
  obtain⟨x11,h11⟩:=I9 (fu:=fu) (z:=x10) (x:=985008993) (l:=[1007192201,1026206379,1042983595,1056964608,1065353216,1065353216]) (by decide) hf
  obtain⟨x12,h12⟩:=KF (fu:=fu) (x:=x6)
  obtain⟨x13,h13⟩:=afh (fu:=fu) (x:=x11) (k:=x12)
  rw[iT,ob_some,yM,ob_some,yM,ob_some,Gx,ob_some,h6,ob_some,Gf,ob_some,Gf,ob_some,h9,ob_some,h10,ob_some,h11,ob_some,h12,ob_some,h13]
  repeat' split
  all_goals exact⟨_,rfl⟩
theorem aoa{fu:Nat}{x y:Int}(hf:200<fu): ∃ r,lw.k1 fu x y=some r:=by
  unfold lw.k1
  obtain⟨x4,h4⟩:=Xn (fu:=fu) (x:=uM .u32 x 2147483648) hf
  obtain⟨x6,h6⟩:=Bg (fu:=fu) (x:=Dy y x4) hf
  obtain⟨x8,h8⟩:=GH (fu:=fu) (x:=y)
  obtain⟨x12,h12⟩:=KF (fu:=fu) (x:=y)
  rw[BV,ob_some,h4,ob_some,Gx,ob_some,h6,ob_some,qi,ob_some,h8,ob_some,HY,ob_some,BV,ob_some,yM,ob_some,h12,ob_some,Gf,ob_some]
  repeat' split
  all_goals exact⟨_,rfl⟩
theorem axa{fu:Nat}{x y:Int}(hf:200<fu): ∃ r,lw fu x y=some r:=by
  unfold lw;try unfold jn
  obtain⟨k,hk⟩:=aoa (fu:=fu) (x:=x) (y:=y) hf
  obtain⟨x8,h8⟩:=GH (fu:=fu) (x:=y)
  rw[BV,ob_some,iT,ob_some,iT,ob_some,qi,ob_some,yM,ob_some,h8,ob_some,HY,ob_some,hk]
  simp only[ob_some]
  repeat' split
  all_goals exact⟨_,rfl⟩
end Go.Av
set_option linter.unusedSimpArgs false
namespace Go.Av
theorem auy{a:Int}(h0:0≤a)(h1:a≤8388607):gy .u64 a 8388608≠0:=by
  unfold gy
  rw[show IntKind.u64.bits=64 from rfl,BitVec.toNat_or]
  have e:(BitVec.ofInt 64 a).toNat=a.toNat:=by rw[BitVec.toNat_ofInt];omega
  have e2:(BitVec.ofInt 64 8388608).toNat=8388608:=by decide
  have h:(BitVec.ofInt 64 a).toNat ||| (BitVec.ofInt 64 8388608).toNat<2 ^ 24:=by
    rw[e,e2];exact Nat.or_lt_two_pow (by omega) (by decide)
  have hr:8388608≤(BitVec.ofInt 64 a).toNat ||| (BitVec.ofInt 64 8388608).toNat:=by
    rw[e2];exact Nat.right_le_or
  have hw:=zT (x:=(((BitVec.ofInt 64 a).toNat ||| (BitVec.ofInt 64 8388608).toNat:Nat):Int)) (by omega) (by omega)
  unfold wk at hw
  rw[hw]
  omega
theorem ahD{fu:Nat}{x:Int}(hx:Word x): ∃ m e,xy fu x=some (m,e)∧0≤m∧m<16777216∧1≤e∧e≤255∧(uM .u32 x 2147483648≠0→m≠0):=by
  obtain⟨h0,h1⟩:=hx
  rw[aei h0 h1]
  obtain⟨n,rfl⟩:=Int.eq_ofNat_of_zero_le h0
  have hn:n<4294967296:=by omega
  have e23:aZ .u32 (n:Int) 23=((n / 8388608:Nat):Int):=aCU (k:=23) hn
  have em:band .u32 ((n / 8388608:Nat):Int) 255=((n / 8388608%256:Nat):Int):=aeO (j:=8) (by decide) (by omega)
  have ef:band .u32 (n:Int) 8388607=((n%8388608:Nat):Int):=aeO (j:=23) (by decide) hn
  unfold xy
  rw[e23,em,ef,bP (x:=((n / 8388608%256:Nat):Int)) (by omega) (by omega),zT (x:=((n%8388608:Nat):Int)) (by omega) (by omega)]
  split
  · exact⟨_,_,rfl,by omega,by omega,by decide,by decide,λh=>by omega⟩
  · have hb:=Ie (a:=((n%8388608:Nat):Int)) (by omega) (by omega)
    exact⟨_,_,rfl,hb.1,hb.2,by omega,by omega,λ_=>auy (by omega) (by omega)⟩
theorem ap0{m:Int}{k:Nat}(h0:0≤m)(h1:m<16777216)(hz:m≠0)(hk:k≤40):bY .u64 m (k:Int)≠0∧0≤bY .u64 m (k:Int):=by
  obtain⟨n,rfl⟩:=Int.eq_ofNat_of_zero_le h0
  unfold bY
  rw[VF (by omega),← Ya,← Int.natCast_mul]
  have hp:=FY hk
  have hlt:n*2 ^ k<2 ^ 64:=by
    have h2:n*2 ^ k<=n*2 ^ 40:=Nat.mul_le_mul_left _ hp
    have h3:n*2 ^ 40<16777216*2 ^ 40:=Nat.mul_lt_mul_of_pos_right (by omega) (by decide)
    have h4:16777216*2 ^ 40=2 ^ 64:=by decide
    omega
  have hpos:0<n*2 ^ k:=Nat.mul_pos (by omega) (Nat.pow_pos (by decide))
  have e:(2:Nat) ^ 64=18446744073709551616:=by decide
  have hw:=zT (x:=((n*2 ^ k:Nat):Int)) (by omega) (by omega)
  unfold wk at hw
  rw[hw]
  omega
theorem aoK{fu:Nat}{x e c:Int}(h0:0≤c)(h1:c<18446744073709551616): ∃ r,fP.k3 fu x e c=some r:=by
  unfold fP.k3
  obtain⟨r,hr⟩:=lM (fu:=fu) (a:= !(decide ((band .u32 x 2147483648)=0))) (e:=false) (b:=wk .i64 (e - 150)) h0 h1
  rw[hr];exact⟨_,rfl⟩
theorem ad9{fu:Nat}{x m e n f:Int}(hm:0≤m∧m<16777216)(he:1≤e∧e≤255)(hn:n≠0∧0≤n∧n<18446744073709551616)(hf:1≤f∧f≤255)(hu:300<fu): ∃ r,fP.k2 fu x (m,e) n f=some r:=by
  unfold fP.k2 fP.W1;try unfold jn
  rw[aU hn.1]
  have hb: ∀ a:Int,0≤a→0≤Int.tmod a n∧Int.tmod a n<n:=fun a ha=>by
    rw[Int.tmod_eq_emod_of_nonneg ha]
    exact⟨Int.emod_nonneg _ hn.1,Int.emod_lt_of_pos _ (by omega)⟩
  refine ahU (λs:Int×Int=>(0<=s.1/\s.1<n)/\ -10<=s.2/\s.2<=255) (λs=>(s.2 - f).toNat) ?_ fu (Int.tmod m n,e) ⟨hb m hm.1,by omega,by omega⟩ (by show(e - f).toNat<fu;omega)
  rintro⟨p,i⟩ ⟨⟨h0,h1⟩,h2,h3⟩ next hnx
  simp only at h0 h1 h2 h3 hnx ⊢
  unfold fP.L1
  by_cases hl:f<i
  · rw[if_pos hl,bP (x:=i - 1) (by omega) (by omega)]
    exact hnx (Int.tmod (wk .u64 (p*2)) n,i - 1) ⟨hb _ (gW _).1,by show -10<=i - 1;omega,by show i - 1<=255;omega⟩ (by show(i - 1 - f).toNat<(i - f).toNat;omega)
  · rw[if_neg hl];exact aoK h0 (by omega)
theorem aGo{fu:Nat}{x y:Int}(hx:Word x)(hy:Word y)(hu:300<fu): ∃ r,fP fu x y=some r:=by
  unfold fP;try unfold jn
  rw[iT,ob_some,iT,ob_some,qi,ob_some,BV,ob_some,qi,ob_some]
  repeat' split
  all_goals first|exact⟨_,rfl⟩|skip
  rename_i hz _
  obtain⟨m,e,h1,m0,m1,e0,e1,_⟩:=ahD (fu:=fu) hx
  obtain⟨n,f,h2,n0,n1,f0,f1,nz⟩:=ahD (fu:=fu) hy
  have hnz:=nz hz
  unfold fP.k1;try unfold jn
  rw[h1,ob_some,h2,ob_some]
  dsimp only
  split
  · rw[bP (x:=f - e) (by omega) (by omega)]
    split
    · exact⟨_,rfl⟩
    · rw[aU (by omega)]
      obtain⟨k,hk⟩:=Int.eq_ofNat_of_zero_le (show 0<=f - e by omega)
      have hs:=ap0 n0 n1 hnz (show k<=40 by omega)
      rw[hk]
      exact ad9 ⟨m0,m1⟩ ⟨e0,e1⟩ ⟨hs.1,hs.2,(ZR (x:=n) (k:=(k:Int))).2⟩ ⟨e0,e1⟩ hu
  · exact ad9 ⟨m0,m1⟩ ⟨e0,e1⟩ ⟨hnz,n0,by omega⟩ ⟨f0,f1⟩ hu
end Go.Av
set_option linter.unusedSimpArgs false
namespace Go.Av
theorem bt{α β:Type}{o:Option α}{f:α→Option β}(h: ∃ r,o=some r)(k: ∀ r,∃ q,f r=some q): ∃ q,o.bind f=some q:=by
  obtain⟨r,hr⟩:=h
  rw[hr];exact k r
theorem iq{c:Prop}[Decidable c]{β:Type}{A B:Option β}(h1:c→ ∃ r,A=some r)(h2: ¬ c→ ∃ r,B=some r): ∃ r,(if c then A else B)=some r:=by
  by_cases hc:c
  · rw[if_pos hc];exact h1 hc
  · rw[if_neg hc];exact h2 hc
theorem yz{fu:Nat}{x:Int}: ∃ r,dV fu x=some r:=⟨_,iT⟩
theorem Sv{fu:Nat}{x:Int}: ∃ r,jb fu x=some r:=⟨_,qi⟩
theorem CZ{fu:Nat}{x:Int}: ∃ r,iU fu x=some r:=⟨_,BV⟩
theorem zG{fu:Nat}{x:Int}: ∃ r,lH fu x=some r:=⟨_,Gf⟩
theorem wK{fu:Nat}{x y:Int}: ∃ r,iM fu x y=some r:=⟨_,yM⟩
theorem Zu{fu:Nat}{x y:Int}: ∃ r,mP fu x y=some r:=⟨_,HY⟩
theorem Xb{fu:Nat}{x y:Int}: ∃ r,rZ fu x y=some r:=⟨_,agY⟩
theorem Gt{fu:Nat}{x y:Int}: ∃ r,pM fu x y=some r:=⟨_,afQ⟩
theorem aDA{fu:Nat}{a c:Bool}{b:Int}: ∃ r,BR fu a b c=some r:=⟨_,rfl⟩
theorem afY{fu:Nat}{p:dQ}{c:Int}(h0:0≤c)(h1:c<18446744073709551616): ∃ r,iE.k3 fu p c=some r:=by
  unfold iE.k3
  obtain⟨r,hr⟩:=lM (fu:=fu) (a:=p.fneg) (e:=false) (b:=0) h0 h1
  rw[hr];exact⟨_,rfl⟩
theorem O3{fu:Nat}{p:dQ}{c:Int}(h0:0≤p.fsig)(h1:p.fsig<16777216): ∃ r,iE.k2 fu p c=some r:=by
  unfold iE.k2;try unfold jn
  obtain⟨b,hb⟩:=aDA (fu:=fu) (a:=p.fneg) (b:=c) (c:=decide ((band .u64 (aZ .u64 p.fsig (wk .i64 (0 - p.fexp))) 1)=1))
  obtain⟨s0,s1⟩:=Ic (x:=p.fsig) (k:=wk .i64 (0 - p.fexp)) h0 (by omega)
  rw[hb,ob_some]
  split
  · exact afY (gW _).1 (gW _).2
  · exact afY s0 (by omega)
theorem ata{fu:Nat}{x:Int}: ∃ r,iE fu x=some r:=by
  obtain⟨p,hp,e0,e1,s0,s1⟩:=wW (fu:=fu) (x:=x)
  unfold iE;try unfold jn
  rw[iT,ob_some,hp,ob_some,qi,ob_some]
  split
  · exact⟨_,rfl⟩
  · split
    · exact⟨_,rfl⟩
    · split
      · exact⟨_,rfl⟩
      · rename_i hn
        split
        · exact⟨_,rfl⟩
        · unfold iE.k1;try unfold jn
          have hw:wk .i64 (0 - p.fexp)=0 - p.fexp:=bP (by omega) (by omega)
          have hw2:wk .i64 (wk .i64 (0 - p.fexp) - 1)=0 - p.fexp - 1:=by rw[hw];exact bP (by omega) (by omega)
          rw[aU (by rw[hw];omega)]
          split
          · exact⟨_,rfl⟩
          · split
            · rw[aU (by rw[hw2];omega)]
              split
              · exact O3 s0 s1
              · split
                · exact O3 s0 s1
                · exact O3 s0 s1
            · exact O3 s0 s1
theorem aBG{fu:Nat}{a c:Bool}{b:Int}: ∃ r,Bi fu a b c=some r:=⟨_,rfl⟩
theorem aii{fu:Nat}{p:dQ}{c:Int}(h0:0≤c)(h1:c<18446744073709551616): ∃ r,iC.k3 fu p c=some r:=by
  unfold iC.k3
  obtain⟨r,hr⟩:=lM (fu:=fu) (a:=p.fneg) (e:=false) (b:=0) h0 h1
  rw[hr];exact⟨_,rfl⟩
theorem PE{fu:Nat}{p:dQ}{c:Int}(h0:0≤p.fsig)(h1:p.fsig<16777216): ∃ r,iC.k2 fu p c=some r:=by
  unfold iC.k2;try unfold jn
  obtain⟨b,hb⟩:=aBG (fu:=fu) (a:=p.fneg) (b:=c) (c:=decide ((band .u64 (aZ .u64 p.fsig (wk .i64 (0 - p.fexp))) 1)=1))
  obtain⟨s0,s1⟩:=Ic (x:=p.fsig) (k:=wk .i64 (0 - p.fexp)) h0 (by omega)
  rw[hb,ob_some]
  split
  · exact aii (gW _).1 (gW _).2
  · exact aii s0 (by omega)
theorem auT{fu:Nat}{x:Int}: ∃ r,iC fu x=some r:=by
  obtain⟨p,hp,e0,e1,s0,s1⟩:=wW (fu:=fu) (x:=x)
  unfold iC;try unfold jn
  rw[iT,ob_some,hp,ob_some,qi,ob_some]
  split
  · exact⟨_,rfl⟩
  · split
    · exact⟨_,rfl⟩
    · split
      · exact⟨_,rfl⟩
      · rename_i hn
        split
        · exact⟨_,rfl⟩
        · unfold iC.k1;try unfold jn
          have hw:wk .i64 (0 - p.fexp)=0 - p.fexp:=bP (by omega) (by omega)
          have hw2:wk .i64 (wk .i64 (0 - p.fexp) - 1)=0 - p.fexp - 1:=by rw[hw];exact bP (by omega) (by omega)
          rw[aU (by rw[hw];omega)]
          split
          · exact⟨_,rfl⟩
          · split
            · rw[aU (by rw[hw2];omega)]
              split
              · exact PE s0 s1
              · split
                · exact PE s0 s1
                · exact PE s0 s1
            · exact PE s0 s1
theorem axh{fu:Nat}{z:Int}: ∀ (k n:Nat) (x:Int),k+1<n→k<60→0≤x∧x<18446744073709551616→ ∃ r,bz (fun next s=>jR.L1 fu z (fun x2 x3=>next (x2,x3)) s.1 s.2) n (x,((2 ^ k:Nat):Int))=some r∧0≤r∧r<18446744073709551616:=by
  intro k
  induction k with
  | zero=>
    intro n x hn hk hx
    obtain⟨m,rfl⟩: ∃ m,n=m+2:=⟨n - 2,by omega⟩
    rw[nY]
    have hs:aZ .u64 ((2 ^ 0:Nat):Int) 1=0:=by decide
    have hend: ∀ y:Int,bz (fun next s=>jR.L1 fu z (fun x2 x3=>next (x2,x3)) s.1 s.2) (m+1) (y,0)=some y:=fun y=>by
      rw[nY];rfl
    show ∃ r,jR.L1 fu z _ x ((2 ^ 0:Nat):Int)=some r/\_
    unfold jR.L1
    rw[if_pos (by decide)]
    dsimp only
    rw[hs]
    split
    · exact⟨_,hend _,EC⟩
    · exact⟨_,hend _,hx⟩
  | succ k ih=>
    intro n x hn hk hx
    obtain⟨m,rfl⟩: ∃ m,n=m+1:=⟨n - 1,by omega⟩
    rw[nY]
    have hs:aZ .u64 ((2 ^ (k+1):Nat):Int) 1=((2 ^ k:Nat):Int):=by
      have h:=NH (a:=2 ^ (k+1)) (k:=1) (Nat.lt_of_le_of_lt (FY (show k+1<=60 by omega)) (by decide))
      rw[show((1:Nat):Int)=1 from rfl]at h
      rw[h,Nat.pow_succ,Nat.pow_one,Nat.mul_div_cancel _ (by decide)]
    show ∃ r,jR.L1 fu z _ x ((2 ^ (k+1):Nat):Int)=some r/\_
    unfold jR.L1
    rw[if_pos (by have:=Nat.two_pow_pos (k+1);omega)]
    dsimp only
    rw[hs]
    split
    · exact ih m _ (by omega) (by omega) EC
    · exact ih m _ (by omega) (by omega) hx
theorem arR{fu:Nat}{z:Int}(hf:200<fu): ∃ r,jR fu z=some r∧0≤r∧r<18446744073709551616:=by
  unfold jR jR.W1
  exact axh 31 fu 0 (by omega) (by decide) ⟨by decide,by decide⟩
theorem ae2{fu:Nat}{p:dQ}{k:Int}(hk:0≤k)(hf:200<fu): ∃ r,oh.k1 fu 0 p k=some r:=by
  unfold oh.k1
  rw[aU hk]
  obtain⟨r,hr,h0,h1⟩:=arR (z:=bY .u64 p.fsig k) hf
  rw[hr,ob_some]
  exact bt (lM h0 h1) λ_=>⟨_,rfl⟩
theorem aCK{fu:Nat}{x:Int}(hf:200<fu): ∃ r,EM fu x=some r:=by
  unfold EM
  refine bt ?_ λ_=>⟨_,rfl⟩
  obtain⟨p,hp,e0,e1,s0,s1⟩:=wW (fu:=fu) (x:=x)
  unfold oh;try unfold jn
  refine bt yz λ_=> ?_
  split
  · exact⟨_,rfl⟩
  refine bt CZ λ_=> ?_
  split
  · exact⟨_,rfl⟩
  split
  · exact⟨_,rfl⟩
  refine bt Sv λ_=> ?_
  split
  · exact⟨_,rfl⟩
  rw[hp,ob_some]
  obtain⟨n,hn,hb,h64⟩:=zW (fu:=fu) (x:=p.fsig.toNat) (by omega)
  rw[show((p.fsig.toNat:Nat):Int)=p.fsig by omega]at hn
  rw[hn,ob_some]
  have h24:n≤24:=by
    rcases Nat.lt_or_ge 24 n with h|h
    · rcases hb.2 with h2|h2
      · omega
      · have:=FY (show 24≤n - 1 by omega)
        have h3:p.fsig.toNat<16777216:=by omega
        have h4:(2:Nat) ^ 24=16777216:=by decide
        omega
    · exact h
  have w1:wk .i64 (62 - (n:Int))=62 - (n:Int):=bP (by omega) (by omega)
  have w2:wk .i64 (wk .i64 (62 - (n:Int))+1)=62 - (n:Int)+1:=by rw[w1];exact bP (by omega) (by omega)
  split
  · exact ae2 (by rw[w2];omega) hf
  · exact ae2 (by rw[w1];omega) hf
theorem ND{fu:Nat}{x a b:Int}: ∃ r,rX fu x a b=some r:=by
  unfold rX
  exact bt Xb λ_=>bt Gt λ_=>⟨_,rfl⟩
theorem WZ{fu:Nat}{x y:Int}: ∃ r,vg fu x y=some r:=by
  unfold vg
  split
  · exact⟨_,rfl⟩
  · exact bt zG λ_=>⟨_,rfl⟩
theorem adk{fu:Nat}{x:Int}: ∃ r,gQ.k3 fu x=some r:=by
  unfold gQ.k3
  exact bt ND λ_=>⟨_,rfl⟩
theorem agh{fu:Nat}{x y z:Int}: ∃ r,gQ.k2 fu x y z=some r:=by
  unfold gQ.k2;try unfold jn
  split
  · exact adk
  · exact bt zG λ_=>adk
theorem aFy{fu:Nat}{x y:Int}(hf:200<fu): ∃ r,gQ.k1 fu x y=some r:=by
  unfold gQ.k1;try unfold jn
  refine bt qW λ_=>bt GH λ_=>bt rQ λ_=>bt rQ λ_=>bt rQ λ_=>bt qW λ_=>bt KF λ_=> ?_
  split
  · exact bt qW λ_=>bt (I9 (by decide) hf) λ_=>bt rQ λ_=>agh
  · exact bt (I9 (by decide) hf) λ_=>agh
theorem aiG{fu:Nat}{x y:Int}(hf:200<fu): ∃ r,gQ fu x y=some r:=by
  unfold gQ;try unfold jn
  refine bt yz λ_=> ?_
  split
  · exact⟨_,rfl⟩
  refine bt Sv λ_=> ?_
  split
  · exact⟨_,rfl⟩
  · exact aFy hf
theorem auG{fu:Nat}{x:Int}(hf:200<fu): ∃ r,Ci fu x=some r:=by
  unfold Ci
  refine bt CZ λ_=>bt yz λ_=> ?_
  split
  · exact⟨_,rfl⟩
  refine bt wK λ_=> ?_
  split
  · exact⟨_,rfl⟩
  · exact bt qW λ_=>bt (Bg hf) λ_=>bt wX λ_=>bt Fj λ_=>bt QN λ_=>bt ND λ_=>bt WZ λ_=>⟨_,rfl⟩
theorem aIW{fu:Nat}{x:Int}(hf:200<fu): ∃ r,Dx fu x=some r:=by
  unfold Dx
  refine bt CZ λ_=>bt yz λ_=> ?_
  split
  · exact⟨_,rfl⟩
  split
  · exact⟨_,rfl⟩
  refine bt wK λ_=> ?_
  split
  · exact bt WZ λ_=>⟨_,rfl⟩
  · exact bt rQ λ_=>bt Fj λ_=>bt (I9 (by decide) hf) λ_=>bt qW λ_=>bt zG λ_=>bt qW λ_=>bt zG λ_=>bt (Bg hf) λ_=>bt rQ λ_=>bt ND λ_=>bt WZ λ_=>⟨_,rfl⟩
theorem aJm{fu:Nat}{x:Int}(hf:200<fu): ∃ r,Dh fu x=some r:=by
  unfold Dh
  refine bt yz λ_=> ?_
  split
  · exact⟨_,rfl⟩
  · exact bt zG λ_=>bt (Bg hf) λ_=>bt wX λ_=>bt Fj λ_=>bt ND λ_=>⟨_,rfl⟩
theorem atf{fu:Nat}{x:Int}(hf:200<fu): ∃ r,D5 fu x=some r:=by
  unfold D5
  refine bt yz λ_=> ?_
  split
  · exact⟨_,rfl⟩
  · exact bt Gt λ_=>bt CZ λ_=>bt zG λ_=>bt (Bg hf) λ_=>bt wX λ_=>bt (Xn hf) λ_=>bt wX λ_=>⟨_,rfl⟩
theorem aGV{fu:Nat}{x:Int}: ∃ r,CP fu x=some r:=by
  unfold CP
  refine bt yz λ_=> ?_
  split
  · exact⟨_,rfl⟩
  refine bt wK λ_=> ?_
  split
  · exact⟨_,rfl⟩
  refine bt wK λ_=> ?_
  split <;> exact⟨_,rfl⟩
theorem nD{fu:Nat}{x y:Int}{p:Int→Option Int}(h: ∃ r,p x=some r): ∃ r,jW fu x y p=some r:=by
  unfold jW
  exact bt h λ_=>⟨_,rfl⟩
theorem WW{fu:Nat}{x y:Int}{p:Int→Int→Option Int}(h: ∃ r,p x y=some r): ∃ r,rF fu x y p=some r:=by
  unfold rF
  refine bt wK λ_=> ?_
  split
  · exact bt h λ_=>⟨_,rfl⟩
  · exact⟨_,rfl⟩
theorem aLF{fu:Nat}{x y:Int}{s:T_Setting}: ∃ r,vH fu 208 (some s) x y=some r:=by
  show ∃ r,rF fu x y (λy0 y1=>DL fu y0 y1 s)=some r
  exact WW (by unfold DL;exact bt qW λ_=>⟨_,rfl⟩)
theorem aFw{fu:Nat}{x y:Int}{s:T_Setting}(h:200<fu): ∃ r,vH fu 211 (some s) x y=some r:=by
  show ∃ r,rF fu x y (λy0 y1=>BX fu y0 y1 s)=some r
  exact WW (by unfold BX;exact bt (Bg h) λ_=>bt QN λ_=>bt qW λ_=>⟨_,rfl⟩)
theorem aHA{fu:Nat}{x y:Int}: ∃ r,vH fu 210 none x y=some r:=by
  show ∃ r,rF fu x y (λy0 y1=>DX fu y0 y1)=some r
  exact WW (by unfold DX;exact bt qW λ_=>⟨_,rfl⟩)
theorem aJR{fu:Nat}{op:Int}{s:T_Setting}{x y:Int}(hx:Word x)(hy:Word y)(hf:4200<fu): ∃ r,sF fu op s x y=some r:=by
  have h2:200<fu:=by omega
  unfold sF
  refine iq (λ_=>nD (fu:=fu) (x:=x) (y:=y) (CZ (fu:=fu))) λ_=>iq (λ_=>nD (fu:=fu) (x:=x) (y:=y) (zG (fu:=fu))) λ_=>iq (λ_=>nD (fu:=fu) (x:=x) (y:=y) aGV) λ_=>iq (λ_=>nD (fu:=fu) (x:=x) (y:=y) ata) λ_=>iq (λ_=>nD (fu:=fu) (x:=x) (y:=y) auT) λ_=>iq (λ_=>nD (fu:=fu) (x:=x) (y:=y) GH) λ_=>iq (λ_=>nD (fu:=fu) (x:=x) (y:=y) (aCK h2)) λ_=>iq (λ_=>bt Fj λ_=>⟨_,rfl⟩) λ_=>iq (λ_=>nD (fu:=fu) (x:=x) (y:=y) (Bg h2)) λ_=>iq (λ_=>nD (fu:=fu) (x:=x) (y:=y) (Xn h2)) λ_=>iq (λ_=>nD (fu:=fu) (x:=x) (y:=y) (bt (aiG h2) λ_=>⟨_,rfl⟩)) λ_=>iq (λ_=>nD (fu:=fu) (x:=x) (y:=y) (bt (aiG h2) λ_=>⟨_,rfl⟩)) λ_=>iq (λ_=>nD (fu:=fu) (x:=x) (y:=y) (auG h2)) λ_=>iq (λ_=>nD (fu:=fu) (x:=x) (y:=y) (aIW h2)) λ_=>iq (λ_=>nD (fu:=fu) (x:=x) (y:=y) (aJm h2)) λ_=>iq (λ_=>bt Gt λ_=>⟨_,rfl⟩) λ_=>iq (λ_=>aLF) λ_=>iq (λ_=>aFw h2) λ_=>iq (λ_=>bt qW λ_=>bt wX λ_=>bt Xb λ_=>bt Gt λ_=>⟨_,rfl⟩) λ_=>iq (λ_=>nD (fu:=fu) (x:=x) (y:=y) (atf h2)) λ_=>iq (λ_=>wX) λ_=>iq (λ_=>QN) λ_=>iq (λ_=>qW) λ_=>iq (λ_=>Fj) λ_=>iq (λ_=>aGo hx hy (by omega)) λ_=>iq (λ_=>axa h2) λ_=>iq (λ_=>Xb) λ_=>iq (λ_=>Gt) λ_=>iq (λ_=>aHA) λ_=>nD (fu:=fu) (x:=x) (y:=y) ⟨_,rfl⟩
theorem akD{fu:Nat}{x y:Int}(h:y≠0): ∃ r,xO fu x y=some r:=by
  unfold xO
  split
  · exact⟨_,rfl⟩
  · rw[aU h];exact⟨_,rfl⟩
theorem as3{fu:Nat}{x y:Int}{b:Bool}(h:y≠0): ∃ r,xZ fu x y b=some r:=by
  unfold xZ
  refine bt (akD h) λ_=> ?_
  repeat' split
  all_goals exact⟨_,rfl⟩
theorem ayf{fu:Nat}{op:Int}{s:T_Setting}{x y:Int}(h:op=31∨op=32→y≠0): ∃ r,qC fu op s x y=some r:=by
  unfold qC
  split
  · exact⟨_,rfl⟩
  split
  · exact⟨_,rfl⟩
  split
  · unfold AC zU;repeat' split
    all_goals exact⟨_,rfl⟩
  split
  · exact⟨_,rfl⟩
  split
  · exact⟨_,rfl⟩
  split
  · exact⟨_,rfl⟩
  split
  · rename_i h1;exact akD (h (.inl h1))
  split
  · rename_i h1;exact as3 (h (.inr h1))
  split
  · exact⟨_,rfl⟩
  split <;> exact⟨_,rfl⟩
theorem aJ7{fu:Nat}{op:Int}{s:T_Setting}{x y:Bool}: ∃ r,Be fu op s x y=some r:=by
  unfold Be Ak AY
  repeat' split
  all_goals exact⟨_,rfl⟩
def FP(op:Int):Prop:=op=37∨op=38∨op=39∨op=40∨op=41
theorem aIP{fu:Nat}{op:Int}{s:T_Setting}{x y:Int}(h:op=26∨op=27∨FP op): ∃ r,FQ fu op s x y=some r:=by
  rcases h with rfl|rfl|rfl|rfl|rfl|rfl|rfl
  · show ∃ r,zl fu x y=some r
    unfold zl
    exact bt yz λ_=>⟨_,rfl⟩
  · show ∃ r,yI fu x y s=some r
    unfold yI
    refine bt Sv λ_=> ?_
    repeat' split
    all_goals exact⟨_,rfl⟩
  · exact Zu
  · exact wK
  · show ∃ r,zy fu x y=some r
    unfold zy
    refine bt wK λ_=> ?_
    split
    · exact⟨_,rfl⟩
    · exact bt Zu λ_=>⟨_,rfl⟩
  · show ∃ r,zn fu x y=some r
    unfold zn
    exact bt wK λ_=>⟨_,rfl⟩
  · show ∃ r,yK fu x y=some r
    unfold yK
    refine bt wK λ_=> ?_
    split
    · exact⟨_,rfl⟩
    · exact bt Zu λ_=>⟨_,rfl⟩
theorem asj{fu:Nat}{op:Int}{s:T_Setting}{x y:Int}(h:FP op): ∃ r,Ei fu op s x y=some r:=by
  rcases h with rfl|rfl|rfl|rfl|rfl <;> exact⟨_,rfl⟩
end Go.Av
set_option linter.unusedSimpArgs false
namespace Go.Av
theorem ahx: ∀ {s l xs:List Int},s.length=l.length→l.length=xs.length→qE s l→qf l xs=true→0≤sZ s xs∧sZ s xs<ah s
  |[],[],[],_,_,_,_=>by simp[sZ,ah]
  | d ::s,x::l,y::xs,h1,h2,hf,ho=>by
    simp only[qf,Bool.and_eq_true,decide_eq_true_eq]at ho
    obtain⟨f1,f2⟩:=ahx (s:=s) (l:=l) (xs:=xs) (by simpa using h1) (by simpa using h2) hf.2 ho.2
    simp only[sZ,ah]
    by_cases hd:d=1
    · rw[if_pos hd,hd,Int.one_mul];omega
    · rw[if_neg hd]
      have:=hf.1.resolve_left hd
      have m1:(y+1)*ah s<=d*ah s:=Int.mul_le_mul_of_nonneg_right (by omega) (by omega)
      rw[Int.add_mul,Int.one_mul]at m1
      have m2:0<=y*ah s:=Int.mul_nonneg ho.1.1 (by omega)
      omega
def pl1(s d:List Int)(k:Nat):Nat:=(fromV s d (k:Int)).1.toNat
theorem P6{s d:List Int}{k:Nat}(gs:Good s)(gd:Good d)(hb:dX s d=(d,0))(hk:(k:Int)<ah d):fromV s d (k:Int)=(((pl1 s d k:Nat):Int),0)∧((pl1 s d k:Nat):Int)<ah s:=by
  obtain⟨h1,h2,h3⟩:=Q8 gs gd hb
  have hp: ∀ x ∈ d,1<=x:=Tt gd (by omega)
  have e:fromV s d (k:Int)=(sZ s ((kV d k).drop (d.length - s.length)),0):=by
    unfold fromV
    rw[if_pos gs,if_pos gd,if_pos hb,if_pos ⟨by omega,hk⟩]
  have hok:=aaq (d.length - s.length) (UV hp (by omega:(0:Int)<=(k:Int)) hk)
  obtain⟨f1,f2⟩:=ahx (s:=s) (by simp;omega) (by simp[QF]) h3 hok
  unfold pl1
  rw[e]
  simp only
  rw[Int.toNat_of_nonneg f1]
  exact⟨rfl,f2⟩
def tl(L:List T_Tensor)(i:Nat):T_Tensor:=L.getD i noT
def WR(t:T_Tensor):Prop:= ∀ j,Word (t.fF.getD j 0)
structure Sit (fu:Nat) (L:List T_Tensor) (d:List Int):Prop where
  gd:Good d
  hf:4200<fu
  len:L.length<=3
  wd: ∀ i,WR (tl L i)
structure Fit (L:List T_Tensor) (d:List Int) (i:Nat):Prop where
  lt:i<L.length
  g:Good (tl L i).fDims
  b:dX (tl L i).fDims d=(d,0)
  l:pI (tl L i)
section
variable {fu:Nat} {L:List T_Tensor} {d:List Int} {k i:Nat} {op t n:Int} {s:T_Setting} {F I:List Int} {B:List Bool}
theorem qx(h:i<L.length):at? L (i:Int)=some (tl L i):=by
  unfold tl
  rw[at?_nat,List.getElem?_eq_getElem h,List.getD_eq_getElem?_getD,List.getElem?_eq_getElem h];rfl
theorem y8(h:Sit fu L d)(hi:Fit L d i)(hk:(k:Int)<ah d):gY fu ⟨op,s,L,⟨t,d,F,I,B⟩,n⟩ (i:Int) (k:Int)=some ((pl1 (tl L i).fDims d k:Nat):Int):=by
  have h1:=hi.g.1;have h2:=h.gd.1;have h3:=h.hf
  unfold gY
  dsimp only
  rw[qx hi.lt,ob_some,atZ (by unfold Short;omega) (by unfold Short;omega) (by omega) (by omega) (by omega),ob_some,(P6 hi.g h.gd hi.b hk).1]
theorem rd{α:Type}{l:List α}{j:Nat}{z:α}(h:j<l.length):at? l (j:Int)=some (l.getD j z):=by
  rw[at?_nat,List.getD_eq_getElem?_getD,List.getElem?_eq_getElem h];rfl
theorem yX(h:Sit fu L d)(hi:Fit L d i)(ht:(tl L i).fType=1)(hk:(k:Int)<ah d):at? (tl L i).fF ((pl1 (tl L i).fDims d k:Nat):Int)=some ((tl L i).fF.getD (pl1 (tl L i).fDims d k) 0):=
  rd (by have:=(P6 hi.g h.gd hi.b hk).2;have:=hi.l.1;rw[if_pos ht]at this;omega)
theorem xh(h:Sit fu L d)(hi:Fit L d i)(ht:(tl L i).fType=7)(hk:(k:Int)<ah d):at? (tl L i).fI ((pl1 (tl L i).fDims d k:Nat):Int)=some ((tl L i).fI.getD (pl1 (tl L i).fDims d k) 0):=
  rd (by have:=(P6 hi.g h.gd hi.b hk).2;have:=hi.l.2.1;rw[if_pos ht]at this;omega)
theorem rP(h:Sit fu L d)(hi:Fit L d i)(ht:(tl L i).fType=9)(hk:(k:Int)<ah d):at? (tl L i).fB ((pl1 (tl L i).fDims d k:Nat):Int)=some ((tl L i).fB.getD (pl1 (tl L i).fDims d k) false):=
  rd (by have:=(P6 hi.g h.gd hi.b hk).2;have:=hi.l.2.2;rw[if_pos ht]at this;omega)
theorem azy(h:1≤L.length)(h3:L.length≤3):wk .i64 ((L.length:Int) - 1)=((L.length - 1:Nat):Int):=by
  rw[bP (by omega) (by omega)];omega
theorem KL:oL fu ⟨op,s,L,⟨t,d,F,I,B⟩,n⟩ (i:Int)=some (decide (i<L.length∧(tl L i).fType≠0)):=by
  unfold oL
  dsimp only
  by_cases h:i<L.length
  · rw[if_pos (by omega),qx h,ob_some];simp[h]
  · rw[if_neg (by omega)];simp[h]
theorem PT(h:lK op):mV fu op s=some (op,s):=by
  unfold mV;exact aU h
end
abbrev Nx:=List Int->List Int->List Bool->Int->Option (T_Tensor×Int)
abbrev S3:=List Int×List Int×List Bool
def upd(ty:Int)(k:Nat)(c:Int×Int×Bool)(S:S3):S3:=if ty=1 then(S.1.set k c.1,S.2.1,S.2.2)else if ty=7 then(S.1,S.2.1.set k c.2.1,S.2.2)else(S.1,S.2.1,S.2.2.set k c.2.2)
def okS(ty:Int)(n k:Nat)(S:S3):Prop:=S.1.length=(if ty=1 then n else 0)/\S.2.1.length=(if ty=7 then n else 0)/\S.2.2.length=(if ty=9 then n else 0)/\S.1.getD k 0=0/\S.2.1.getD k 0=0/\S.2.2.getD k false=false
def Et(ty:Int)(n k:Nat)(L1:Nx->List Int->List Int->List Bool->Option (T_Tensor×Int)):Prop:= ∃ c,∀ F I B,okS ty n k (F,I,B)-> ∀ nx,L1 nx F I B=(λS':S3=>nx S'.1 S'.2.1 S'.2.2 ((k+1:Nat):Int)) (upd ty k c (F,I,B))
section
variable {n k:Nat} {nx:Nx} {F I:List Int} {B:List Bool}
theorem Ez{v:Int}(hk:k<n)(hn:n≤4096)(h:F.length=n):(chk (0≤(k:Int)∧(k:Int)<(F.length:Int))<|nx (F.set (k:Int).toNat v) I B (wk .i64 ((k:Int)+1)))=nx (F.set k v) I B ((k+1:Nat):Int):=by
  rw[aU ⟨by omega,by omega⟩,Int.toNat_natCast,gU (by omega)]
theorem DZ{v:Int}(hk:k<n)(hn:n≤4096)(h:I.length=n):(chk (0≤(k:Int)∧(k:Int)<(I.length:Int))<|nx F (I.set (k:Int).toNat v) B (wk .i64 ((k:Int)+1)))=nx F (I.set k v) B ((k+1:Nat):Int):=by
  rw[aU ⟨by omega,by omega⟩,Int.toNat_natCast,gU (by omega)]
theorem yL{v:Bool}(hk:k<n)(hn:n≤4096)(h:B.length=n):(chk (0≤(k:Int)∧(k:Int)<(B.length:Int))<|nx F I (B.set (k:Int).toNat v) (wk .i64 ((k:Int)+1)))=nx F I (B.set k v) ((k+1:Nat):Int):=by
  rw[aU ⟨by omega,by omega⟩,Int.toNat_natCast,gU (by omega)]
theorem set_self{α:Type}{l:List α}{z:α}(h:k<l.length)(hz:l.getD k z=z):l.set k z=l:=by
  rw[List.getD_eq_getElem?_getD,List.getElem?_eq_getElem h]at hz
  have:l[k]=z:=hz
  rw[← this,List.set_getElem_self]
theorem aee{α:Type}{l:List α}{v:α}(h:k<l.length):at? (l.set k v) (k:Int)=some v:=by
  rw[at?_nat,List.getElem?_set_self h]
end
end Go.Av
set_option linter.unusedSimpArgs false
namespace Go.Av
section
variable {fu:Nat} {L:List T_Tensor} {d:List Int} {k:Nat} {op ty t:Int} {s:T_Setting} {F0 I0:List Int} {B0:List Bool}
theorem arN(n42:op≠42)(n43:op≠43)(n44:op≠44)(h:Sit fu L d)(f0:Fit L d 0)(f1:Fit L d (L.length - 1))(hk:(k:Int)<ah d)(hB:B0.length=if ty=9 then(ah d).toNat else 0)
    (ht:(tl L 0).fType=t) (hu:(tl L (L.length - 1)).fType=t)
    (hc:(t=1/\(ty=1∨ty=9/\(op=26∨op=27∨FP op)))∨(t=7/\((ty=7/\(op=31∨op=32->(tl L (L.length - 1)).fI.getD (pl1 (tl L (L.length - 1)).fDims d k) 0≠0))∨ty=9/\FP op))∨(t=9/\ty=9)):
    Et ty (ah d).toNat k (λnx F I B=>aN.L1 fu op s L (⟨ty,d,F0,I0,B0⟩,0) (ah d,0) (op,s) nx F I B (k:Int)):=by
  have hp:=kQ h.gd.2.1
  have hq:=h.gd.2.2
  have hf:=h.hf
  have hl:=f0.lt
  have h3:=h.len
  have e: ∀ F I B nx,okS ty (ah d).toNat k (F,I,B)→aN.L1 fu op s L (⟨ty,d,F0,I0,B0⟩,0) (ah d,0) (op,s) nx F I B (k:Int)=if t=1 then(if ty=1 then((at? (tl L 0).fF ((pl1 (tl L 0).fDims d k:Nat):Int)).bind fun x388=>(at? (tl L (L.length - 1)).fF ((pl1 (tl L (L.length - 1)).fDims d k:Nat):Int)).bind fun x389=>(sF fu op s x388 x389).bind fun x390=>(pW fu x390).bind fun x391=>chk (0≤(k:Int)∧(k:Int)<(F.length:Int))<|nx (F.set (k:Int).toNat x391) I B (wk .i64 ((k:Int)+1)))else(at? (tl L 0).fF ((pl1 (tl L 0).fDims d k:Nat):Int)).bind fun x392=>(at? (tl L (L.length - 1)).fF ((pl1 (tl L (L.length - 1)).fDims d k:Nat):Int)).bind fun x393=>(FQ fu op s x392 x393).bind fun x394=>chk (0≤(k:Int)∧(k:Int)<(B.length:Int))<|nx F I (B.set (k:Int).toNat x394) (wk .i64 ((k:Int)+1)))else if t=7 then(if ty=7 then((at? (tl L 0).fI ((pl1 (tl L 0).fDims d k:Nat):Int)).bind fun x395=>(at? (tl L (L.length - 1)).fI ((pl1 (tl L (L.length - 1)).fDims d k:Nat):Int)).bind fun x396=>(qC fu op s x395 x396).bind fun x397=>chk (0≤(k:Int)∧(k:Int)<(I.length:Int))<|nx F (I.set (k:Int).toNat x397) B (wk .i64 ((k:Int)+1)))else(at? (tl L 0).fI ((pl1 (tl L 0).fDims d k:Nat):Int)).bind fun x398=>(at? (tl L (L.length - 1)).fI ((pl1 (tl L (L.length - 1)).fDims d k:Nat):Int)).bind fun x399=>(Ei fu op s x398 x399).bind fun x400=>chk (0≤(k:Int)∧(k:Int)<(B.length:Int))<|nx F I (B.set (k:Int).toNat x400) (wk .i64 ((k:Int)+1)))else(at? (tl L 0).fB ((pl1 (tl L 0).fDims d k:Nat):Int)).bind fun x401=>(at? (tl L (L.length - 1)).fB ((pl1 (tl L (L.length - 1)).fDims d k:Nat):Int)).bind fun x402=>(Be fu op s x401 x402).bind fun x403=>chk (0≤(k:Int)∧(k:Int)<(B.length:Int))<|nx F I (B.set (k:Int).toNat x403) (wk .i64 ((k:Int)+1)):=by
    intro F I B nx ok
    unfold aN.L1
    dsimp only
    rw[aU (by rw[hB,ok.2.2.1]),if_pos hk,if_neg n42,if_neg n43,if_neg n44,show at? L (0:Int)=some (tl L 0)from qx hl,ob_some,azy (by omega) h3,qx f1.lt,ob_some,show gY fu ⟨op,s,L,⟨ty,d,F,I,B⟩,ah d⟩ (0:Int) (k:Int)=_ from y8 (i:=0) h f0 hk,ob_some,y8 h f1 hk,ob_some,ht]
  rcases hc with⟨rfl,rfl|⟨rfl,ho⟩⟩|⟨rfl,⟨rfl,nz⟩|⟨rfl,ho⟩⟩|⟨rfl,rfl⟩
  · obtain⟨r,hr⟩:=aJR (op:=op) (s:=s) (h.wd 0 (pl1 (tl L 0).fDims d k)) (h.wd (L.length - 1) (pl1 (tl L (L.length - 1)).fDims d k)) hf
    refine⟨(cnV r,0,false),λF I B ok nx=> ?_⟩
    refine(e F I B nx ok).trans ?_
    rw[if_pos rfl,if_pos rfl,yX h f0 ht hk,ob_some,yX h f1 hu hk,ob_some,hr,ob_some,aG2,ob_some,Ez (n:=(ah d).toNat) (by omega) (by omega) (by simpa[okS]using ok.1)]
    rfl
  · obtain⟨r,hr⟩:=aIP (fu:=fu) (s:=s) (x:=(tl L 0).fF.getD (pl1 (tl L 0).fDims d k) 0) (y:=(tl L (L.length - 1)).fF.getD (pl1 (tl L (L.length - 1)).fDims d k) 0) ho
    refine⟨(0,0,r),λF I B ok nx=> ?_⟩
    refine(e F I B nx ok).trans ?_
    rw[if_pos rfl,if_neg (by decide),yX h f0 ht hk,ob_some,yX h f1 hu hk,ob_some,hr,ob_some,yL (n:=(ah d).toNat) (by omega) (by omega) (by simpa[okS]using ok.2.2.1)]
    rfl
  · obtain⟨r,hr⟩:=ayf (fu:=fu) (s:=s) (x:=(tl L 0).fI.getD (pl1 (tl L 0).fDims d k) 0) nz
    refine⟨(0,r,false),λF I B ok nx=> ?_⟩
    refine(e F I B nx ok).trans ?_
    rw[if_neg (by decide),if_pos rfl,if_pos rfl,xh h f0 ht hk,ob_some,xh h f1 hu hk,ob_some,hr,ob_some,DZ (n:=(ah d).toNat) (by omega) (by omega) (by simpa[okS]using ok.2.1)]
    rfl
  · obtain⟨r,hr⟩:=asj (fu:=fu) (s:=s) (x:=(tl L 0).fI.getD (pl1 (tl L 0).fDims d k) 0) (y:=(tl L (L.length - 1)).fI.getD (pl1 (tl L (L.length - 1)).fDims d k) 0) ho
    refine⟨(0,0,r),λF I B ok nx=> ?_⟩
    refine(e F I B nx ok).trans ?_
    rw[if_neg (by decide),if_pos rfl,if_neg (by decide),xh h f0 ht hk,ob_some,xh h f1 hu hk,ob_some,hr,ob_some,yL (n:=(ah d).toNat) (by omega) (by omega) (by simpa[okS]using ok.2.2.1)]
    rfl
  · obtain⟨r,hr⟩:=aJ7 (fu:=fu) (op:=op) (s:=s) (x:=(tl L 0).fB.getD (pl1 (tl L 0).fDims d k) false) (y:=(tl L (L.length - 1)).fB.getD (pl1 (tl L (L.length - 1)).fDims d k) false)
    refine⟨(0,0,r),λF I B ok nx=> ?_⟩
    refine(e F I B nx ok).trans ?_
    rw[if_neg (by decide),if_neg (by decide),rP h f0 ht hk,ob_some,rP h f1 hu hk,ob_some,hr,ob_some,yL (n:=(ah d).toNat) (by omega) (by omega) (by simpa[okS]using ok.2.2.1)]
    rfl
theorem auh(h:Sit fu L d)(f0:Fit L d 0)(f1:Fit L d 1)(f2:Fit L d 2)(hk:(k:Int)<ah d)(hB:B0.length=if ty=9 then(ah d).toNat else 0)
    (t0:(tl L 0).fType=9) (t1:(tl L 1).fType=ty) (t2:(tl L 2).fType=ty) (hty:ty=1∨ty=7∨ty=9):
    Et ty (ah d).toNat k (λnx F I B=>aN.L1 fu 42 s L (⟨ty,d,F0,I0,B0⟩,0) (ah d,0) (42,s) nx F I B (k:Int)):=by
  have hp:=kQ h.gd.2.1
  have hq:=h.gd.2.2
  have hl:=f0.lt
  have p0: ∀ F I B,gY fu ⟨42,s,L,⟨ty,d,F,I,B⟩,ah d⟩ (0:Int) (k:Int)=_:=λF I B=>y8 (i:=0) h f0 hk
  have p1: ∀ F I B,gY fu ⟨42,s,L,⟨ty,d,F,I,B⟩,ah d⟩ (1:Int) (k:Int)=_:=λF I B=>y8 (i:=1) h f1 hk
  have p2: ∀ F I B,gY fu ⟨42,s,L,⟨ty,d,F,I,B⟩,ah d⟩ (2:Int) (k:Int)=_:=λF I B=>y8 (i:=2) h f2 hk
  have a0:at? L (0:Int)=some (tl L 0):=qx f0.lt
  have a1:at? L (1:Int)=some (tl L 1):=qx f1.lt
  have a2:at? L (2:Int)=some (tl L 2):=qx f2.lt
  by_cases hb:(tl L 0).fB.getD (pl1 (tl L 0).fDims d k) false=true
  · rcases hty with rfl|rfl|rfl
    · refine⟨((tl L 1).fF.getD (pl1 (tl L 1).fDims d k) 0,0,false),fun F I B ok nx=> ?_⟩
      show aN.L1 fu 42 s L (⟨1,d,F0,I0,B0⟩,0) (ah d,0) (42,s) nx F I B (k:Int)=_
      unfold aN.L1
      dsimp only
      rw[aU (by rw[hB,ok.2.2.1]),if_pos hk,if_pos rfl,a0,ob_some,p0,ob_some,rP h f0 t0 hk,ob_some,if_pos hb,p1,ob_some,if_pos rfl,a1,ob_some,yX h f1 t1 hk,ob_some,Ez (n:=(ah d).toNat) (by omega) (by omega) (by simpa[okS]using ok.1)]
      rfl
    · refine⟨(0,(tl L 1).fI.getD (pl1 (tl L 1).fDims d k) 0,false),fun F I B ok nx=> ?_⟩
      show aN.L1 fu 42 s L (⟨7,d,F0,I0,B0⟩,0) (ah d,0) (42,s) nx F I B (k:Int)=_
      unfold aN.L1
      dsimp only
      rw[aU (by rw[hB,ok.2.2.1]),if_pos hk,if_pos rfl,a0,ob_some,p0,ob_some,rP h f0 t0 hk,ob_some,if_pos hb,p1,ob_some,if_neg (by decide),if_pos rfl,a1,ob_some,xh h f1 t1 hk,ob_some,DZ (n:=(ah d).toNat) (by omega) (by omega) (by simpa[okS]using ok.2.1)]
      rfl
    · refine⟨(0,0,(tl L 1).fB.getD (pl1 (tl L 1).fDims d k) false),fun F I B ok nx=> ?_⟩
      show aN.L1 fu 42 s L (⟨9,d,F0,I0,B0⟩,0) (ah d,0) (42,s) nx F I B (k:Int)=_
      unfold aN.L1
      dsimp only
      rw[aU (by rw[hB,ok.2.2.1]),if_pos hk,if_pos rfl,a0,ob_some,p0,ob_some,rP h f0 t0 hk,ob_some,if_pos hb,p1,ob_some,if_neg (by decide),if_neg (by decide),a1,ob_some,rP h f1 t1 hk,ob_some,yL (n:=(ah d).toNat) (by omega) (by omega) (by simpa[okS]using ok.2.2.1)]
      rfl
  · rcases hty with rfl|rfl|rfl
    · refine⟨((tl L 2).fF.getD (pl1 (tl L 2).fDims d k) 0,0,false),fun F I B ok nx=> ?_⟩
      show aN.L1 fu 42 s L (⟨1,d,F0,I0,B0⟩,0) (ah d,0) (42,s) nx F I B (k:Int)=_
      unfold aN.L1
      dsimp only
      rw[aU (by rw[hB,ok.2.2.1]),if_pos hk,if_pos rfl,a0,ob_some,p0,ob_some,rP h f0 t0 hk,ob_some,if_neg hb,p2,ob_some,if_pos rfl,a2,ob_some,yX h f2 t2 hk,ob_some,Ez (n:=(ah d).toNat) (by omega) (by omega) (by simpa[okS]using ok.1)]
      rfl
    · refine⟨(0,(tl L 2).fI.getD (pl1 (tl L 2).fDims d k) 0,false),fun F I B ok nx=> ?_⟩
      show aN.L1 fu 42 s L (⟨7,d,F0,I0,B0⟩,0) (ah d,0) (42,s) nx F I B (k:Int)=_
      unfold aN.L1
      dsimp only
      rw[aU (by rw[hB,ok.2.2.1]),if_pos hk,if_pos rfl,a0,ob_some,p0,ob_some,rP h f0 t0 hk,ob_some,if_neg hb,p2,ob_some,if_neg (by decide),if_pos rfl,a2,ob_some,xh h f2 t2 hk,ob_some,DZ (n:=(ah d).toNat) (by omega) (by omega) (by simpa[okS]using ok.2.1)]
      rfl
    · refine⟨(0,0,(tl L 2).fB.getD (pl1 (tl L 2).fDims d k) false),fun F I B ok nx=> ?_⟩
      show aN.L1 fu 42 s L (⟨9,d,F0,I0,B0⟩,0) (ah d,0) (42,s) nx F I B (k:Int)=_
      unfold aN.L1
      dsimp only
      rw[aU (by rw[hB,ok.2.2.1]),if_pos hk,if_pos rfl,a0,ob_some,p0,ob_some,rP h f0 t0 hk,ob_some,if_neg hb,p2,ob_some,if_neg (by decide),if_neg (by decide),a2,ob_some,rP h f2 t2 hk,ob_some,yL (n:=(ah d).toNat) (by omega) (by omega) (by simpa[okS]using ok.2.2.1)]
      rfl
theorem aBq(h:Sit fu L d)(f0:Fit L d 0)(hd:d=(tl L 0).fDims)(hk:(k:Int)<ah d)(hB:B0.length=if ty=9 then(ah d).toNat else 0)
    (t0:(tl L 0).fType=1∨(tl L 0).fType=7∨(tl L 0).fType=9) (hty:ty=1∨ty=7∨ty=9):
    Et ty (ah d).toNat k (λnx F I B=>aN.L1 fu 44 s L (⟨ty,d,F0,I0,B0⟩,0) (ah d,0) (44,s) nx F I B (k:Int)):=by
  have hp:=kQ h.gd.2.1
  have hq:=h.gd.2.2
  have p0: ∀ F I B,gY fu ⟨44,s,L,⟨ty,d,F,I,B⟩,ah d⟩ (0:Int) (k:Int)=_:=λF I B=>y8 (i:=0) h f0 hk
  have a0:at? L (0:Int)=some (tl L 0):=qx f0.lt
  have lF:(tl L 0).fType=1->at? (tl L 0).fF (k:Int)=some ((tl L 0).fF.getD k 0):=λht=>rd (by have:=f0.l.1;rw[if_pos ht,← hd]at this;omega)
  have lI:(tl L 0).fType=7->at? (tl L 0).fI (k:Int)=some ((tl L 0).fI.getD k 0):=λht=>rd (by have:=f0.l.2.1;rw[if_pos ht,← hd]at this;omega)
  have lB:(tl L 0).fType=9->at? (tl L 0).fB (k:Int)=some ((tl L 0).fB.getD k false):=λht=>rd (by have:=f0.l.2.2;rw[if_pos ht,← hd]at this;omega)
  rcases t0 with t0|t0|t0 <;> rcases hty with rfl|rfl|rfl
  · refine⟨((tl L 0).fF.getD (pl1 (tl L 0).fDims d k) 0,0,false),fun F I B ok nx=> ?_⟩
    show aN.L1 fu 44 s L (⟨1,d,F0,I0,B0⟩,0) (ah d,0) (44,s) nx F I B (k:Int)=_
    unfold aN.L1
    dsimp only
    rw[aU (by rw[hB,ok.2.2.1]),if_pos hk,if_neg (by decide),if_neg (by decide),if_pos rfl,a0,ob_some,if_pos t0,p0,ob_some,if_pos rfl,yX h f0 t0 hk,ob_some,Ez (n:=(ah d).toNat) (by omega) (by omega) (by simpa[okS]using ok.1)]
    rfl
  · obtain⟨r,hr⟩:=KF (fu:=fu) (x:=(tl L 0).fF.getD k 0)
    refine⟨(0,r,false),λF I B ok nx=> ?_⟩
    show aN.L1 fu 44 s L (⟨7,d,F0,I0,B0⟩,0) (ah d,0) (44,s) nx F I B (k:Int)=_
    unfold aN.L1
    dsimp only
    rw[aU (by rw[hB,ok.2.2.1]),if_pos hk,if_neg (by decide),if_neg (by decide),if_pos rfl,a0,ob_some,if_neg (by rw[t0];decide),if_pos t0,if_pos rfl,lF t0,ob_some,hr,ob_some,DZ (n:=(ah d).toNat) (by omega) (by omega) (by simpa[okS]using ok.2.1)]
    rfl
  · obtain⟨r,hr⟩:=CZ (fu:=fu) (x:=(tl L 0).fF.getD k 0)
    refine⟨(0,0,!(decide (r=0))),λF I B ok nx=> ?_⟩
    show aN.L1 fu 44 s L (⟨9,d,F0,I0,B0⟩,0) (ah d,0) (44,s) nx F I B (k:Int)=_
    unfold aN.L1
    dsimp only
    rw[aU (by rw[hB,ok.2.2.1]),if_pos hk,if_neg (by decide),if_neg (by decide),if_pos rfl,a0,ob_some,if_neg (by rw[t0];decide),if_pos t0,if_neg (by decide),lF t0,ob_some,hr,ob_some,yL (n:=(ah d).toNat) (by omega) (by omega) (by simpa[okS]using ok.2.2.1)]
    rfl
  · obtain⟨r,hr⟩:=akU (fu:=fu) (n:=(tl L 0).fI.getD k 0)
    refine⟨(r,0,false),λF I B ok nx=> ?_⟩
    show aN.L1 fu 44 s L (⟨1,d,F0,I0,B0⟩,0) (ah d,0) (44,s) nx F I B (k:Int)=_
    unfold aN.L1
    dsimp only
    rw[aU (by rw[hB,ok.2.2.1]),if_pos hk,if_neg (by decide),if_neg (by decide),if_pos rfl,a0,ob_some,if_neg (by rw[t0];decide),if_neg (by rw[t0];decide),if_pos t0,if_pos rfl,lI t0,ob_some,hr,ob_some,Ez (n:=(ah d).toNat) (by omega) (by omega) (by simpa[okS]using ok.1)]
    rfl
  · refine⟨(0,(tl L 0).fI.getD (pl1 (tl L 0).fDims d k) 0,false),fun F I B ok nx=> ?_⟩
    show aN.L1 fu 44 s L (⟨7,d,F0,I0,B0⟩,0) (ah d,0) (44,s) nx F I B (k:Int)=_
    unfold aN.L1
    dsimp only
    rw[aU (by rw[hB,ok.2.2.1]),if_pos hk,if_neg (by decide),if_neg (by decide),if_pos rfl,a0,ob_some,if_pos t0,p0,ob_some,if_neg (by decide),if_pos rfl,xh h f0 t0 hk,ob_some,DZ (n:=(ah d).toNat) (by omega) (by omega) (by simpa[okS]using ok.2.1)]
    rfl
  · refine⟨(0,0,!(decide ((tl L 0).fI.getD k 0=0))),fun F I B ok nx=> ?_⟩
    show aN.L1 fu 44 s L (⟨9,d,F0,I0,B0⟩,0) (ah d,0) (44,s) nx F I B (k:Int)=_
    unfold aN.L1
    dsimp only
    rw[aU (by rw[hB,ok.2.2.1]),if_pos hk,if_neg (by decide),if_neg (by decide),if_pos rfl,a0,ob_some,if_neg (by rw[t0];decide),if_neg (by rw[t0];decide),if_pos t0,if_neg (by decide),lI t0,ob_some,yL (n:=(ah d).toNat) (by omega) (by omega) (by simpa[okS]using ok.2.2.1)]
    rfl
  · refine⟨if(tl L 0).fB.getD k false=true then(1065353216,0,false)else(0,0,false),fun F I B ok nx=> ?_⟩
    show aN.L1 fu 44 s L (⟨1,d,F0,I0,B0⟩,0) (ah d,0) (44,s) nx F I B (k:Int)=_
    unfold aN.L1
    dsimp only
    rw[aU (by rw[hB,ok.2.2.1]),if_pos hk,if_neg (by decide),if_neg (by decide),if_pos rfl,a0,ob_some,if_neg (by rw[t0];decide),if_neg (by rw[t0];decide),if_neg (by rw[t0];decide),lB t0,ob_some]
    by_cases hb:(tl L 0).fB.getD k false=true
    · rw[if_pos hb,if_pos hb,if_pos rfl,Ez (n:=(ah d).toNat) (by omega) (by omega) (by simpa[okS]using ok.1)];rfl
    · rw[if_neg hb,if_neg hb,gU (by omega)]
      have:F.set k 0=F:=set_self (by have:=ok.1;simp only[if_true]at this;omega) ok.2.2.2.1
      show _=nx (F.set k 0) I B _
      rw[this]
  · refine⟨if(tl L 0).fB.getD k false=true then(0,1,false)else(0,0,false),fun F I B ok nx=> ?_⟩
    show aN.L1 fu 44 s L (⟨7,d,F0,I0,B0⟩,0) (ah d,0) (44,s) nx F I B (k:Int)=_
    unfold aN.L1
    dsimp only
    rw[aU (by rw[hB,ok.2.2.1]),if_pos hk,if_neg (by decide),if_neg (by decide),if_pos rfl,a0,ob_some,if_neg (by rw[t0];decide),if_neg (by rw[t0];decide),if_neg (by rw[t0];decide),lB t0,ob_some]
    by_cases hb:(tl L 0).fB.getD k false=true
    · rw[if_pos hb,if_pos hb,if_neg (by decide),DZ (n:=(ah d).toNat) (by omega) (by omega) (by simpa[okS]using ok.2.1)];rfl
    · rw[if_neg hb,if_neg hb,gU (by omega)]
      have:I.set k 0=I:=set_self (by have:=ok.2.1;simp only[if_true]at this;omega) ok.2.2.2.2.1
      show _=nx F (I.set k 0) B _
      rw[this]
  · refine⟨(0,0,(tl L 0).fB.getD (pl1 (tl L 0).fDims d k) false),fun F I B ok nx=> ?_⟩
    show aN.L1 fu 44 s L (⟨9,d,F0,I0,B0⟩,0) (ah d,0) (44,s) nx F I B (k:Int)=_
    unfold aN.L1
    dsimp only
    rw[aU (by rw[hB,ok.2.2.1]),if_pos hk,if_neg (by decide),if_neg (by decide),if_pos rfl,a0,ob_some,if_pos t0,p0,ob_some,if_neg (by decide),if_neg (by decide),rP h f0 t0 hk,ob_some,yL (n:=(ah d).toNat) (by omega) (by omega) (by simpa[okS]using ok.2.2.1)]
    rfl
theorem auj(h:Sit fu L d)(hk:(k:Int)<ah d)(hty: ∀ i,i<L.length→(tl L i).fType≠0→1≤i→(tl L i).fType=1∧(tl L i).fDims=[]∧pI (tl L i))(v:Int):
    ∃ r,∀ (F I:List Int) (B:List Bool) (nx:Nx),F.length=(ah d).toNat->aN.W2 fu nx 43 s L (⟨1,d,F0,I0,B0⟩,0) (ah d,0) F I B (k:Int) (F.set k v) [35,34] 0=nx (F.set k r) I B ((k+1:Nat):Int):=by
  have hp:=kQ h.gd.2.1
  have hq:=h.gd.2.2
  have hf:=h.hf
  have tot: ∀ o:Int,o=35∨o=34→ ∀ a b,∃ r,sF fu o s a b=some r:=by
    rintro o (rfl|rfl) a b
    · exact⟨_,afQ⟩
    · exact⟨_,agY⟩
  have one: ∀ (i:Nat) (o:Int),o=35∨o=34→1≤i→i≤2→ ∀ v:Int,∃ r,∀ (F I:List Int) (B:List Bool) (nx2:Int→List Int→Option (T_Tensor×Int)),F.length=(ah d).toNat→
      ((oL fu ⟨43,s,L,⟨1,d,(F.set k v),I,B⟩,ah d⟩ (i:Int)).bind λx313=>if x313=true then((mV fu o s).bind λx314=>(at? (F.set k v) (k:Int)).bind λx315=>(at? L (i:Int)).bind λx316=>(at? x316.fF 0).bind λx317=>(sF fu x314.1 x314.2 x315 x317).bind λx318=>chk (0<=(k:Int)/\(k:Int)<((F.set k v).length:Int))<|nx2 0 ((F.set k v).set (k:Int).toNat x318))else nx2 0 (F.set k v))=nx2 0 (F.set k r):=by
    intro i o ho h1 h2 v
    by_cases hi:i<L.length/\(tl L i).fType≠0
    · obtain⟨q1,q2,q3⟩:=hty i hi.1 hi.2 h1
      obtain⟨r,hr⟩:=tot o ho v ((tl L i).fF.getD 0 0)
      refine⟨r,λF I B nx2 hl=> ?_⟩
      have hkl:k<F.length:=by omega
      have hz:at? (tl L i).fF 0=some ((tl L i).fF.getD 0 0):=rd (j:=0) (by have:=q3.1;rw[if_pos q1,q2]at this;have e1:ah []=1:=rfl;omega)
      rw[KL,ob_some,if_pos (by simpa using hi),PT (by rcases ho with rfl|rfl <;> exact⟨by decide,by decide⟩),ob_some,aee hkl,ob_some,qx hi.1,ob_some,hz,ob_some,hr,ob_some,aU ⟨by omega,by rw[List.length_set];omega⟩,Int.toNat_natCast,List.set_set]
    · refine⟨v,fun F I B nx2 hl=> ?_⟩
      rw[KL,ob_some,if_neg (by simpa using hi)]
  obtain⟨r1,h1⟩:=one 1 35 (.inl rfl) (by omega) (by omega) v
  obtain⟨r2,h2⟩:=one 2 34 (.inr rfl) (by omega) (by omega) r1
  refine⟨r2,λF I B nx hl=> ?_⟩
  unfold aN.W2
  obtain⟨q,rfl⟩: ∃ q,fu=q+3:=⟨fu - 3,by omega⟩
  rw[nY]
  show aN.L2 _ nx 43 s L _ _ F I B (k:Int) _ (F.set k v) [35,34] 0=_
  unfold aN.L2
  dsimp only
  rw[aU (by rw[List.length_set]),if_pos (by decide),show at? [35,34] (0:Int)=some (35:Int)from rfl,ob_some,show wk .i64 ((0:Int)+1)=((1:Nat):Int)by decide]
  refine(h1 F I B (λ_ X=>bz (λnext s_1=>aN.L2 (q+3) nx 43 s L (⟨1,d,F0,I0,B0⟩,0) (ah d,0) F I B (k:Int) (λx302 x303 x304=>next (x302,x303,x304)) s_1.1 s_1.2.1 s_1.2.2) (q+2) (X,[35,34],((1:Nat):Int))) hl).trans ?_
  rw[nY]
  show aN.L2 _ nx 43 s L _ _ F I B (k:Int) _ (F.set k r1) [35,34] ((1:Nat):Int)=_
  unfold aN.L2
  dsimp only
  rw[aU (by rw[List.length_set]),if_pos (by decide),show at? [35,34] ((1:Nat):Int)=some (34:Int)from rfl,ob_some,show wk .i64 (((1:Nat):Int)+1)=((2:Nat):Int)by decide]
  refine(h2 F I B (λ_ X=>bz (λnext s_1=>aN.L2 (q+3) nx 43 s L (⟨1,d,F0,I0,B0⟩,0) (ah d,0) F I B (k:Int) (λx302 x303 x304=>next (x302,x303,x304)) s_1.1 s_1.2.1 s_1.2.2) (q+1) (X,[35,34],((2:Nat):Int))) hl).trans ?_
  rw[nY]
  show aN.L2 _ nx 43 s L _ _ F I B (k:Int) _ (F.set k r2) [35,34] ((2:Nat):Int)=_
  unfold aN.L2
  dsimp only
  rw[aU (by rw[List.length_set]),if_neg (by decide),gU (by omega)]
theorem avn(h:Sit fu L d)(hk:(k:Int)<ah d)(hty: ∀ i,i<L.length→(tl L i).fType≠0→1≤i→(tl L i).fType=7∧(tl L i).fDims=[]∧pI (tl L i))(v:Int):
    ∃ r,∀ (F I:List Int) (B:List Bool) (nx:Nx),I.length=(ah d).toNat->aN.W3 fu nx 43 s L (⟨7,d,F0,I0,B0⟩,0) (ah d,0) F I B (k:Int) (I.set k v) [35,34] 0=nx F (I.set k r) B ((k+1:Nat):Int):=by
  have hp:=kQ h.gd.2.1
  have hq:=h.gd.2.2
  have hf:=h.hf
  have tot: ∀ o:Int,o=35∨o=34→ ∀ a b,∃ r,qC fu o s a b=some r:=by
    rintro o (rfl|rfl) a b
    · exact⟨_,rfl⟩
    · exact⟨_,rfl⟩
  have one: ∀ (i:Nat) (o:Int),o=35∨o=34→1≤i→i≤2→ ∀ v:Int,∃ r,∀ (F I:List Int) (B:List Bool) (nx2:Int→List Int→Option (T_Tensor×Int)),I.length=(ah d).toNat→
      ((oL fu ⟨43,s,L,⟨7,d,F,(I.set k v),B⟩,ah d⟩ (i:Int)).bind λx313=>if x313=true then((mV fu o s).bind λx314=>(at? (I.set k v) (k:Int)).bind λx315=>(at? L (i:Int)).bind λx316=>(at? x316.fI 0).bind λx317=>(qC fu x314.1 x314.2 x315 x317).bind λx318=>chk (0<=(k:Int)/\(k:Int)<((I.set k v).length:Int))<|nx2 0 ((I.set k v).set (k:Int).toNat x318))else nx2 0 (I.set k v))=nx2 0 (I.set k r):=by
    intro i o ho h1 h2 v
    by_cases hi:i<L.length/\(tl L i).fType≠0
    · obtain⟨q1,q2,q3⟩:=hty i hi.1 hi.2 h1
      obtain⟨r,hr⟩:=tot o ho v ((tl L i).fI.getD 0 0)
      refine⟨r,λF I B nx2 hl=> ?_⟩
      have hkl:k<I.length:=by omega
      have hz:at? (tl L i).fI 0=some ((tl L i).fI.getD 0 0):=rd (j:=0) (by have:=q3.2.1;rw[if_pos q1,q2]at this;have e1:ah []=1:=rfl;omega)
      rw[KL,ob_some,if_pos (by simpa using hi),PT (by rcases ho with rfl|rfl <;> exact⟨by decide,by decide⟩),ob_some,aee hkl,ob_some,qx hi.1,ob_some,hz,ob_some,hr,ob_some,aU ⟨by omega,by rw[List.length_set];omega⟩,Int.toNat_natCast,List.set_set]
    · refine⟨v,fun F I B nx2 hl=> ?_⟩
      rw[KL,ob_some,if_neg (by simpa using hi)]
  obtain⟨r1,h1⟩:=one 1 35 (.inl rfl) (by omega) (by omega) v
  obtain⟨r2,h2⟩:=one 2 34 (.inr rfl) (by omega) (by omega) r1
  refine⟨r2,λF I B nx hl=> ?_⟩
  unfold aN.W3
  obtain⟨q,rfl⟩: ∃ q,fu=q+3:=⟨fu - 3,by omega⟩
  rw[nY]
  show aN.L3 _ nx 43 s L _ _ F I B (k:Int) _ (I.set k v) [35,34] 0=_
  unfold aN.L3
  dsimp only
  rw[aU (by rw[List.length_set]),if_pos (by decide),show at? [35,34] (0:Int)=some (35:Int)from rfl,ob_some,show wk .i64 ((0:Int)+1)=((1:Nat):Int)by decide]
  refine(h1 F I B (λ_ X=>bz (λnext s_1=>aN.L3 (q+3) nx 43 s L (⟨7,d,F0,I0,B0⟩,0) (ah d,0) F I B (k:Int) (λx302 x303 x304=>next (x302,x303,x304)) s_1.1 s_1.2.1 s_1.2.2) (q+2) (X,[35,34],((1:Nat):Int))) hl).trans ?_
  rw[nY]
  show aN.L3 _ nx 43 s L _ _ F I B (k:Int) _ (I.set k r1) [35,34] ((1:Nat):Int)=_
  unfold aN.L3
  dsimp only
  rw[aU (by rw[List.length_set]),if_pos (by decide),show at? [35,34] ((1:Nat):Int)=some (34:Int)from rfl,ob_some,show wk .i64 (((1:Nat):Int)+1)=((2:Nat):Int)by decide]
  refine(h2 F I B (λ_ X=>bz (λnext s_1=>aN.L3 (q+3) nx 43 s L (⟨7,d,F0,I0,B0⟩,0) (ah d,0) F I B (k:Int) (λx302 x303 x304=>next (x302,x303,x304)) s_1.1 s_1.2.1 s_1.2.2) (q+1) (X,[35,34],((2:Nat):Int))) hl).trans ?_
  rw[nY]
  show aN.L3 _ nx 43 s L _ _ F I B (k:Int) _ (I.set k r2) [35,34] ((2:Nat):Int)=_
  unfold aN.L3
  dsimp only
  rw[aU (by rw[List.length_set]),if_neg (by decide),gU (by omega)]
theorem aye(h:Sit fu L d)(f0:Fit L d 0)(hk:(k:Int)<ah d)(hB:B0.length=if ty=9 then(ah d).toNat else 0)(t0:(tl L 0).fType=ty)(ht:ty=1∨ty=7)
    (hty: ∀ i,i<L.length->(tl L i).fType≠0->1<=i->(tl L i).fType=ty/\(tl L i).fDims=[]/\pI (tl L i)):
    Et ty (ah d).toNat k (λnx F I B=>aN.L1 fu 43 s L (⟨ty,d,F0,I0,B0⟩,0) (ah d,0) (43,s) nx F I B (k:Int)):=by
  have hp:=kQ h.gd.2.1
  have hq:=h.gd.2.2
  have p0: ∀ F I B,gY fu ⟨43,s,L,⟨ty,d,F,I,B⟩,ah d⟩ (0:Int) (k:Int)=_:=λF I B=>y8 (i:=0) h f0 hk
  have a0:at? L (0:Int)=some (tl L 0):=qx f0.lt
  rcases ht with rfl|rfl
  · obtain⟨r,hr⟩:=auj (s:=s) (F0:=F0) (I0:=I0) (B0:=B0) h hk hty ((tl L 0).fF.getD (pl1 (tl L 0).fDims d k) 0)
    refine⟨(r,0,false),λF I B ok nx=> ?_⟩
    have hl:F.length=(ah d).toNat:=by simpa[okS]using ok.1
    show aN.L1 fu 43 s L (⟨1,d,F0,I0,B0⟩,0) (ah d,0) (43,s) nx F I B (k:Int)=_
    unfold aN.L1
    dsimp only
    rw[aU (by rw[hB,ok.2.2.1]),if_pos hk,if_neg (by decide),if_pos rfl,p0,ob_some,if_pos rfl,a0,ob_some,yX h f0 t0 hk,ob_some,aU ⟨by omega,by omega⟩,Int.toNat_natCast]
    exact(hr F I B nx hl)
  · obtain⟨r,hr⟩:=avn (s:=s) (F0:=F0) (I0:=I0) (B0:=B0) h hk hty ((tl L 0).fI.getD (pl1 (tl L 0).fDims d k) 0)
    refine⟨(0,r,false),λF I B ok nx=> ?_⟩
    have hl:I.length=(ah d).toNat:=by simpa[okS]using ok.2.1
    show aN.L1 fu 43 s L (⟨7,d,F0,I0,B0⟩,0) (ah d,0) (43,s) nx F I B (k:Int)=_
    unfold aN.L1
    dsimp only
    rw[aU (by rw[hB,ok.2.2.1]),if_pos hk,if_neg (by decide),if_pos rfl,p0,ob_some,if_neg (by decide),if_pos rfl,a0,ob_some,xh h f0 t0 hk,ob_some,aU ⟨by omega,by omega⟩,Int.toNat_natCast]
    exact(hr F I B nx hl)
end
end Go.Av
namespace Go.Av
theorem Tn{σ α β:Type}(st:List α→Nat→σ){B:(σ→Option β)→σ→Option β}{at_:List Int}(bad:Int→Bool)(pk:Int→α)(z:α){e:Option β}{c:List α→Option β}
    (hB: ∀ (next:σ->Option β) (k:Nat) (m:List α) (hk:k<at_.length),m.length=at_.length->B next (st m k)=if bad at_[k]=true then e else next (st (if 0<=at_[k]then m.set k (pk at_[k])else m) (k+1)))
    (hE: ∀ (next:σ->Option β) (m:List α),m.length=at_.length->B next (st m at_.length)=c m) (hz: ∀ a,¬ 0<=a->pk a=z) {fu:Nat} (hf:at_.length<fu):
    bz B fu (st (List.replicate at_.length z) 0)=if at_.any bad=true then e else c (at_.map pk):=by
  have key : ∀ (f k:Nat),k≤at_.length→at_.length - k<f→bz B f (st ((at_.take k).map pk++List.replicate (at_.length - k) z) k)=if(at_.drop k).any bad=true then e else c (at_.map pk):=by
    intro f
    induction f with
    |zero=>intro k _ h;omega
    | succ f ih=>
      intro k hk hf
      by_cases hkn:k=at_.length
      · subst hkn
        show B _ _=_
        have:=hE (bz B f) ((at_.take at_.length).map pk++List.replicate (at_.length - at_.length) z) (by simp)
        rw[this]
        simp
      · have hk':k<at_.length:=by omega
        show B _ _=_
        rw[hB _ _ _ hk' (by simp;omega),List.drop_eq_getElem_cons hk',List.any_cons]
        by_cases hb:bad at_[k]=true
        · simp[hb]
        · rw [if_neg hb]
          have hm:(if 0≤at_[k]then((at_.take k).map pk++List.replicate (at_.length - k) z).set k (pk at_[k])else(at_.take k).map pk++List.replicate (at_.length - k) z)=(at_.take (k+1)).map pk++List.replicate (at_.length - (k+1)) z:=by
            have hr:List.replicate (at_.length - k) z=z::List.replicate (at_.length - (k+1)) z:=by rw[show at_.length - k=at_.length - (k+1)+1 by omega,List.replicate_succ]
            have ht:at_.take (k+1)=at_.take k++[at_[k]]:=by rw[List.take_add_one,List.getElem?_eq_getElem hk'];rfl
            have hlen:((at_.take k).map pk).length=k:=by simp;omega
            rw[hr,ht,List.map_append,List.append_assoc]
            split
            · rw[List.set_append_right _ _ (by omega),hlen,Nat.sub_self]
              rfl
            · rename_i h0
              rw[List.map_singleton,hz _ h0]
              rfl
          rw[hm,ih (k+1) (by omega) (by omega)]
          simp[hb]
  have:=key fu 0 (by omega) (by omega)
  simpa using this
def sS(N:Int)(x:Int):Bool:=decide (x< -1) || decide (N<=x)
def nS{α:Type}(src:List α)(z:α)(a:Int):α:=if 0<=a then src.getD a.toNat z else z
def KP(t:T_Tensor)(d l:List Int):T_Tensor×Int:=
  if oO t=0 then(if(iW t.fType d).2=0 then(if(l.length:Int)=ah d then(if l.any (sS (t.fF.length+t.fI.length+t.fB.length))=true then(noT,2)else
    (if t.fType=1 then⟨t.fType,d,l.map (nS t.fF 0),[],[]⟩else if t.fType=7 then⟨t.fType,d,[],l.map (nS t.fI 0),[]⟩else⟨t.fType,d,[],[],l.map (nS t.fB false)⟩,0))else(noT,3))else(noT,(iW t.fType d).2))else(noT,oO t)
theorem at?_pk{α:Type}{src:List α}{z:α}{a:Int}(h0:0≤a)(h:a<src.length):at? src a=some (nS src z a):=by
  obtain⟨k,rfl⟩:=Int.eq_ofNat_of_zero_le h0
  rw[at?_get (by omega),nS,if_pos h0,List.getD_eq_getElem?_getD,Int.toNat_natCast,List.getElem?_eq_getElem (by omega)]
  rfl
theorem abl{α:Type}{src:List α}{z:α}{a:Int}(h: ¬ 0<=a):nS src z a=z:=if_neg h
theorem aom{k:Int}{d:List Int}(h:(iW k d).2=0):qP k∧Good d∧iW k d=(if k=1 then(⟨k,d,List.replicate (ah d).toNat 0,[],[]⟩,0)else if k=7 then(⟨k,d,[],List.replicate (ah d).toNat 0,[]⟩,0)else(⟨k,d,[],[],List.replicate (ah d).toNat false⟩,0)):=by
  unfold iW at h ⊢
  by_cases hk:k=1∨k=7∨k=9
  · rw[if_pos hk]at h ⊢
    by_cases hg:Good d
    · rw[if_pos hg]
      exact⟨hk,hg,rfl⟩
    · rw[if_neg hg]at h
      exact absurd h (nO d)
  · rw[if_neg hk]at h
    cases h
theorem auX{fu:Nat}{N x:Int}:ut fu x N=some (sS N x):=by
  unfold ut sS
  by_cases h:x< -1
  · rw[if_pos h];simp[h]
  · rw[if_neg h];simp[h]
theorem sumW{a b c:Nat}(h1:a≤140737488355328)(h2:b≤140737488355328)(h3:c≤140737488355328):wk .i64 ((wk .i64 ((a:Int)+(b:Int)))+(c:Int))=(a:Int)+b+c:=by
  rw[agr,bP (by omega) (by omega)]
theorem Vg{N:Int}{l:List Int}(h: ¬ l.any (sS N)=true){k:Nat}(hk:k<l.length): -1≤l[k]∧l[k]<N:=by
  have:=h
  simp only[List.any_eq_true,not_exists,not_and,sS,Bool.or_eq_true,decide_eq_true_eq]at this
  have:=this _ (List.getElem_mem hk)
  omega
theorem aoy{fu:Nat}{t:T_Tensor}{d l:List Int}(hs:Small t)(hf:Fuel fu t)(hd:Short d)(hfd:d.length<fu)(hl:Short l)(hfl:l.length<fu):bC fu t d l=some (KP t d l):=by
  unfold bC KP jc
  rw[alT hs hf,ob_some]
  by_cases hc:oO t=0
  · rw [if_pos hc,if_pos hc,Tm hd hfd,ob_some]
    obtain⟨_,hg0,hlen⟩:=NG.1 hc
    obtain⟨s1,s2,s3,s4⟩:=hs
    by_cases hn:(iW t.fType d).2=0
    · obtain ⟨hk,hg,e⟩:=aom hn
      rw[if_pos hn,if_pos hn]
      rw[sumW (a:=t.fF.length) (by omega) (by omega) (by omega)]
      have hpn:=kQ hg.2.1
      have hp4:=hg.2.2
      have hcf:oM fu l (λy0=>ut fu y0 ((t.fF.length:Int)+t.fI.length+t.fB.length))=some (l.any (sS (t.fF.length+t.fI.length+t.fB.length))):=aap (λx=>auX) hl hfl
      unfold Short at hl
      rw[hcf]
      rcases hk with e1|e1|e1
      · obtain ⟨l1,l2,l3⟩:=hlen
        rw[e1]at e
        simp only[if_true]at e
        simp only[e1,e,if_true,List.length_replicate,List.length_nil]at l1 l2 l3 ⊢
        simp only[show ¬ (1:Int)=7 by decide,show ¬ (1:Int)=9 by decide,if_false]at l2 l3
        rw[sumW (by omega) (by omega) (by omega)]
        by_cases hll:(l.length:Int)=ah d
        · rw [if_pos (by omega),if_pos hll,ob_some]
          by_cases hb:l.any (sS (t.fF.length+t.fI.length+t.fB.length))=true
          · rw[if_pos hb,if_pos hb];rfl
          · rw [if_neg hb,if_neg hb]
            have hnl:(ah d).toNat=l.length:=by omega
            rw[hnl]
            have fin: ∀ m:List Int,m.length=l.length→bC.c1 fu t l (⟨1,d,List.replicate l.length 0,[],[]⟩,0) m=some (⟨1,d,m,[],[]⟩,0):=fun m hm=>by
              simp[bC.c1,bC.c2,bC.c3,chk,jc,hm]
            by_cases h0:l=[]
            · subst h0
              exact(if_pos rfl).trans (fin [] rfl)
            · have hpos:0<l.length:=List.length_pos_iff.2 h0
              rw[if_neg (by omega)]
              unfold bC.W3
              refine(Tn (λ(m:List Int) (k:Nat)=>(m,(k:Int))) (λ_=>false) (nS t.fF 0) 0 (e:=none) (c:=λm=>some (⟨1,d,m,[],[]⟩,0)) ?_ ?_ (λa=>abl) hfl).trans (by simp)
              · intro next k m hk hm
                have hnb:=Vg hb hk
                unfold bC.L3
                simp only[Int.toNat_natCast,List.length_replicate]
                rw[if_pos (by omega),at?_get hk,ob_some,gU (by omega),if_neg (show ¬ (false=true)by decide)]
                by_cases ha:0<=l[k]
                · rw[if_pos ha,if_pos ha,at?_pk (z:=0) ha (by omega),ob_some,aU (by omega),aU (by omega)]
                · rw[if_neg ha,if_neg ha]
              · intro next m hm
                unfold bC.L3
                rw[if_neg (by simp)]
                exact fin m hm
        · rw[if_neg (by omega),if_neg hll];rfl
      · obtain ⟨l1,l2,l3⟩:=hlen
        rw[e1]at e
        simp only[show ¬ (7:Int)=1 by decide,if_false,if_true]at e
        simp only[e1,e,if_true,List.length_replicate,List.length_nil,show ¬ (7:Int)=1 by decide,show ¬ (7:Int)=9 by decide,if_false]at l1 l2 l3 ⊢
        rw[sumW (by omega) (by omega) (by omega)]
        by_cases hll:(l.length:Int)=ah d
        · rw [if_pos (by omega),if_pos hll,ob_some]
          by_cases hb:l.any (sS (t.fF.length+t.fI.length+t.fB.length))=true
          · rw[if_pos hb,if_pos hb];rfl
          · rw [if_neg hb,if_neg hb]
            have hnl:(ah d).toNat=l.length:=by omega
            rw[hnl]
            have fin: ∀ m:List Int,m.length=l.length→bC.c2 fu t l (⟨7,d,[],List.replicate l.length 0,[]⟩,0) [] m=some (⟨7,d,[],m,[]⟩,0):=fun m hm=>by
              simp[bC.c2,bC.c3,chk,jc,hm]
            rw[if_pos (by simp)]
            unfold bC.c1;try unfold jc
            rw[aU (by simp)]
            simp only[List.length_replicate]
            by_cases h0:l=[]
            · subst h0
              exact(if_pos rfl).trans (fin [] rfl)
            · have hpos:0<l.length:=List.length_pos_iff.2 h0
              rw[if_neg (by omega)]
              unfold bC.W2
              refine(Tn (λ(m:List Int) (k:Nat)=>(m,(k:Int))) (λ_=>false) (nS t.fI 0) 0 (e:=none) (c:=λm=>some (⟨7,d,[],m,[]⟩,0)) ?_ ?_ (λa=>abl) hfl).trans (by simp)
              · intro next k m hk hm
                have hnb:=Vg hb hk
                unfold bC.L2
                simp only[Int.toNat_natCast,List.length_replicate]
                rw[if_pos (by omega),at?_get hk,ob_some,gU (by omega),if_neg (show ¬ (false=true)by decide)]
                by_cases ha:0<=l[k]
                · rw[if_pos ha,if_pos ha,at?_pk (z:=0) ha (by omega),ob_some,aU (by omega),aU (by omega)]
                · rw[if_neg ha,if_neg ha]
              · intro next m hm
                unfold bC.L2
                rw[if_neg (by simp)]
                exact fin m hm
        · rw[if_neg (by omega),if_neg hll];rfl
      · obtain ⟨l1,l2,l3⟩:=hlen
        rw[e1]at e
        simp only[show ¬ (9:Int)=1 by decide,show ¬ (9:Int)=7 by decide,if_false]at e
        simp only[e1,e,if_true,List.length_replicate,List.length_nil,show ¬ (9:Int)=1 by decide,show ¬ (9:Int)=7 by decide,if_false]at l1 l2 l3 ⊢
        rw[sumW (by omega) (by omega) (by omega)]
        by_cases hll:(l.length:Int)=ah d
        · rw [if_pos (by omega),if_pos hll,ob_some]
          by_cases hb:l.any (sS (t.fF.length+t.fI.length+t.fB.length))=true
          · rw[if_pos hb,if_pos hb];rfl
          · rw [if_neg hb,if_neg hb]
            have hnl:(ah d).toNat=l.length:=by omega
            rw[hnl]
            have fin: ∀ m:List Bool,m.length=l.length→bC.c3 fu (⟨9,d,[],[],List.replicate l.length false⟩,0) [] [] m=some (⟨9,d,[],[],m⟩,0):=fun m hm=>by
              simp[bC.c3,chk,hm]
            rw[if_pos (by simp)]
            unfold bC.c1;try unfold jc
            rw[aU (by simp),if_pos (by simp)]
            unfold bC.c2;try unfold jc
            rw[aU (by simp)]
            simp only[List.length_replicate]
            by_cases h0:l=[]
            · subst h0
              exact(if_pos rfl).trans (fin [] rfl)
            · have hpos:0<l.length:=List.length_pos_iff.2 h0
              rw[if_neg (by omega)]
              unfold bC.W1
              refine(Tn (λ(m:List Bool) (k:Nat)=>(m,(k:Int))) (λ_=>false) (nS t.fB false) false (e:=none) (c:=λm=>some (⟨9,d,[],[],m⟩,0)) ?_ ?_ (λa=>abl) hfl).trans (by simp)
              · intro next k m hk hm
                have hnb:=Vg hb hk
                unfold bC.L1
                simp only[Int.toNat_natCast,List.length_replicate]
                rw[if_pos (by omega),at?_get hk,ob_some,gU (by omega),if_neg (show ¬ (false=true)by decide)]
                by_cases ha:0<=l[k]
                · rw[if_pos ha,if_pos ha,at?_pk (z:=false) ha (by omega),ob_some,aU (by omega),aU (by omega)]
                · rw[if_neg ha,if_neg ha]
              · intro next m hm
                unfold bC.L1
                rw[if_neg (by simp)]
                exact fin m hm
        · rw[if_neg (by omega),if_neg hll];rfl
    · rw[if_neg hn,if_neg hn];rfl
  · rw[if_neg hc,if_neg hc];rfl
end Go.Av
set_option linter.unusedSimpArgs false
namespace Go.Av
theorem aLb{fu:Nat}{op lo hi k:Int}{s:T_Setting}{L:List T_Tensor}{x9:T_Tensor×Int}{x10:Int×Int}{x12:Int×T_Setting}{nx:Nx}{F I:List Int}{B:List Bool}(h1:k<hi)(h2:k<x10.1):
    bu.L1 fu op s lo hi L x9 x10 x12 nx F I B k=aN.L1 fu op s L x9 x10 x12 nx F I B k:=by
  unfold bu.L1 aN.L1
  rw[if_pos h1,if_pos h2]
  rfl
def fl{α:Type}(n lo k:Nat)(g:Nat->α)(z:α):List α:=(List.range n).map λj=>if lo<=j/\j<k then g j else z
theorem Il{α:Type}{n lo k:Nat}{g:Nat->α}{z:α}:(fl n lo k g z).length=n:=by simp[fl]
theorem V3{α:Type}{n lo k:Nat}{g:Nat→α}{z:α}(h:lo≤k)(hk:k<n):(fl n lo k g z).set k (g k)=fl n lo (k+1) g z:=by
  apply List.ext_getElem
  · simp[fl]
  · intro j h1 h2
    simp only[fl,List.length_set,List.length_map,List.length_range]at h1
    rw[List.getElem_set]
    by_cases e:k=j
    · subst e;rw[if_pos rfl];simp[fl,h]
    · rw[if_neg e]
      simp only[fl,List.getElem_map,List.getElem_range]
      by_cases c:lo<=j/\j<k
      · rw[if_pos c,if_pos ⟨c.1,by omega⟩]
      · rw[if_neg c,if_neg (by omega)]
theorem ak6{α:Type}{n lo k j:Nat}{g:Nat→α}{z:α}(hj:j<n):(fl n lo k g z).getD j z=if lo≤j∧j<k then g j else z:=by
  rw[List.getD_eq_getElem?_getD,List.getElem?_eq_getElem (by rw[Il];exact hj)]
  simp[fl]
theorem abf{α:Type}{n lo k j:Nat}{g:Nat→α}{z:α}(hj: ¬ (lo≤j∧j<k)):(fl n lo k g z).getD j z=z:=by
  by_cases h:j<n
  · rw[ak6 h,if_neg hj]
  · rw[List.getD_eq_getElem?_getD,List.getElem?_eq_none (by rw[Il];omega)];rfl
theorem Pe{α:Type}{n lo:Nat}{g:Nat→α}{z:α}:fl n lo lo g z=List.replicate n z:=by
  apply List.ext_getElem
  · simp[fl]
  · intro j h1 h2
    simp only[fl,List.getElem_map,List.getElem_range,List.getElem_replicate]
    rw[if_neg (by omega)]
def st(ty:Int)(n lo:Nat)(c:Nat->Int×Int×Bool)(k:Nat):S3:=(if ty=1 then fl n lo k (λj=>(c j).1) 0 else [],if ty=7 then fl n lo k (λj=>(c j).2.1) 0 else [],if ty=9 then fl n lo k (λj=>(c j).2.2) false else [])
theorem aie{ty:Int}{n lo k:Nat}{c:Nat→Int×Int×Bool}(hty:ty=1∨ty=7∨ty=9)(h:lo≤k)(hk:k<n):upd ty k (c k) (st ty n lo c k)=st ty n lo c (k+1):=by
  rcases hty with rfl|rfl|rfl
  · simp only[upd,st,if_true]
    rw[V3 (g:=λj=>(c j).1) h hk];rfl
  · simp only[upd,st,if_true]
    rw[if_neg (by decide),V3 (g:=λj=>(c j).2.1) h hk];rfl
  · simp only[upd,st,if_true]
    rw[if_neg (by decide),if_neg (by decide),V3 (g:=λj=>(c j).2.2) h hk];rfl
theorem wO{ty:Int}{n lo k:Nat}{c:Nat→Int×Int×Bool}:okS ty n k (st ty n lo c k):=by
  unfold okS st
  refine⟨?_,?_,?_,?_,?_,?_⟩
  · by_cases h:ty=1
    · simp only[if_pos h,Il]
    · simp only[if_neg h];rfl
  · by_cases h:ty=7
    · simp only[if_pos h,Il]
    · simp only[if_neg h];rfl
  · by_cases h:ty=9
    · simp only[if_pos h,Il]
    · simp only[if_neg h];rfl
  · by_cases h:ty=1
    · simp only[if_pos h];exact abf (by omega)
    · simp only[if_neg h];rfl
  · by_cases h:ty=7
    · simp only[if_pos h];exact abf (by omega)
    · simp only[if_neg h];rfl
  · by_cases h:ty=9
    · simp only[if_pos h];exact abf (by omega)
    · simp only[if_neg h];rfl
def Wr(fu:Nat)(op ty:Int)(s:T_Setting)(L:List T_Tensor)(d:List Int)(F0 I0:List Int)(B0:List Bool)(c:Nat→Int×Int×Bool):Prop:= ∀ k,k<(ah d).toNat→ ∀ F I B,okS ty (ah d).toNat k (F,I,B)→ ∀ nx:Nx,
  aN.L1 fu op s L (⟨ty,d,F0,I0,B0⟩,0) (ah d,0) (op,s) nx F I B (k:Int)=(λS':S3=>nx S'.1 S'.2.1 S'.2.2 ((k+1:Nat):Int)) (upd ty k (c k) (F,I,B))
section
variable {fu:Nat} {op ty:Int} {s:T_Setting} {L:List T_Tensor} {d:List Int} {F0 I0:List Int} {B0:List Bool} {c:Nat->Int×Int×Bool}
theorem aGt(h: ∀ k,k<(ah d).toNat→Et ty (ah d).toNat k (fun nx F I B=>aN.L1 fu op s L (⟨ty,d,F0,I0,B0⟩,0) (ah d,0) (op,s) nx F I B (k:Int))): ∃ c,Wr fu op ty s L d F0 I0 B0 c:=
  ⟨fun k=>if hk:k<(ah d).toNat then Classical.choose (h k hk)else(0,0,false),fun k hk F I B ok nx=>by
    have:=Classical.choose_spec (h k hk) F I B ok nx
    simp only[dif_pos hk]
    exact this⟩
theorem aoq(h:Wr fu op ty s L d F0 I0 B0 c)(hty:ty=1∨ty=7∨ty=9)(gd:Good d)(hf:4200<fu)(e:(F0,I0,B0)=st ty (ah d).toNat 0 c 0):
    aN.W1 fu op s L (⟨ty,d,F0,I0,B0⟩,0) (ah d,0) (op,s) F0 I0 B0 0=some (⟨ty,d,(st ty (ah d).toNat 0 c (ah d).toNat).1,(st ty (ah d).toNat 0 c (ah d).toNat).2.1,(st ty (ah d).toNat 0 c (ah d).toNat).2.2⟩,0):=by
  have hp:=kQ gd.2.1
  have hq:=gd.2.2
  have hB:B0.length=(if ty=9 then(ah d).toNat else 0):=by
    have:=(wO (ty:=ty) (n:=(ah d).toNat) (lo:=0) (k:=0) (c:=c)).2.2.1
    rw[← e]at this;exact this
  unfold aN.W1
  have key:=yf (body:=fun next s_1=>aN.L1 fu op s L (⟨ty,d,F0,I0,B0⟩,0) (ah d,0) (op,s) (fun x142 x143 x144 x145=>next (x142,x143,x144,x145)) s_1.1 s_1.2.1 s_1.2.2.1 s_1.2.2.2) (ah d).toNat
    (λk=>((st ty (ah d).toNat 0 c k).1,(st ty (ah d).toNat 0 c k).2.1,(st ty (ah d).toNat 0 c k).2.2,(k:Int))) (λ_=>True)
    (λr=>r=some (⟨ty,d,(st ty (ah d).toNat 0 c (ah d).toNat).1,(st ty (ah d).toNat 0 c (ah d).toNat).2.1,(st ty (ah d).toNat 0 c (ah d).toNat).2.2⟩,0)) ?_ ?_ trivial (n:=fu) (by omega)
  · rw[← e]at key;exact key
  · intro k hk _ next hn
    refine(h k hk (st ty (ah d).toNat 0 c k).1 (st ty (ah d).toNat 0 c k).2.1 (st ty (ah d).toNat 0 c k).2.2 wO _).trans ?_
    rw[show((st ty (ah d).toNat 0 c k).1,(st ty (ah d).toNat 0 c k).2.1,(st ty (ah d).toNat 0 c k).2.2)=st ty (ah d).toNat 0 c k from rfl,aie hty (Nat.zero_le _) hk]
    exact hn trivial
  · intro _ next
    show aN.L1 fu op s L _ _ _ _ _ _ _ (((ah d).toNat:Nat):Int)=_
    unfold aN.L1
    dsimp only
    rw[aU (hB.trans wO.2.2.1.symm),if_neg (by omega)]
theorem apQ(h:Wr fu op ty s L d F0 I0 B0 c)(hty:ty=1∨ty=7∨ty=9)(gd:Good d)(hf:4200<fu){lo hi:Nat}(h1:lo≤hi)(h2:(hi:Int)≤ah d)(e:(F0,I0,B0)=st ty (ah d).toNat lo c lo):
    bu.W1 fu op s (lo:Int) (hi:Int) L (⟨ty,d,F0,I0,B0⟩,0) (ah d,0) (op,s) F0 I0 B0 (lo:Int)=bu.W5 fu (lo:Int) (hi:Int) (⟨ty,d,F0,I0,B0⟩,0) (st ty (ah d).toNat lo c hi).1 (st ty (ah d).toNat lo c hi).2.1 (st ty (ah d).toNat lo c hi).2.2 [] (lo:Int):=by
  have hp:=kQ gd.2.1
  have hq:=gd.2.2
  have hB:B0.length=(if ty=9 then(ah d).toNat else 0):=by
    have:=(wO (ty:=ty) (n:=(ah d).toNat) (lo:=lo) (k:=lo) (c:=c)).2.2.1
    rw[← e]at this;exact this
  unfold bu.W1
  have key:=yf (body:=fun next s_1=>bu.L1 fu op s (lo:Int) (hi:Int) L (⟨ty,d,F0,I0,B0⟩,0) (ah d,0) (op,s) (fun x142 x143 x144 x145=>next (x142,x143,x144,x145)) s_1.1 s_1.2.1 s_1.2.2.1 s_1.2.2.2) (hi - lo)
    (λk=>((st ty (ah d).toNat lo c (lo+k)).1,(st ty (ah d).toNat lo c (lo+k)).2.1,(st ty (ah d).toNat lo c (lo+k)).2.2,((lo+k:Nat):Int))) (λ_=>True)
    (λr=>r=bu.W5 fu (lo:Int) (hi:Int) (⟨ty,d,F0,I0,B0⟩,0) (st ty (ah d).toNat lo c hi).1 (st ty (ah d).toNat lo c hi).2.1 (st ty (ah d).toNat lo c hi).2.2 [] (lo:Int)) ?_ ?_ trivial (n:=fu) (by omega)
  · simp only[Nat.add_zero]at key
    rw[← e]at key;exact key
  · intro k hk _ next hn
    refine(aLb (by dsimp only;omega) (by dsimp only;omega)).trans ?_
    refine(h (lo+k) (by omega) (st ty (ah d).toNat lo c (lo+k)).1 (st ty (ah d).toNat lo c (lo+k)).2.1 (st ty (ah d).toNat lo c (lo+k)).2.2 wO _).trans ?_
    rw[show((st ty (ah d).toNat lo c (lo+k)).1,(st ty (ah d).toNat lo c (lo+k)).2.1,(st ty (ah d).toNat lo c (lo+k)).2.2)=st ty (ah d).toNat lo c (lo+k)from rfl,aie hty (by omega) (by omega)]
    exact hn trivial
  · intro _ next
    rw[show lo+(hi - lo)=hi by omega]
    show bu.L1 fu op s _ _ L _ _ _ _ _ _ _ (hi:Int)=_
    unfold bu.L1;try unfold jn
    dsimp only
    rw[aU (hB.trans ((wO (k:=hi)).2.2.1.symm)),if_neg (by omega)]
end
end Go.Av
set_option linter.unusedSimpArgs false
namespace Go.Av
theorem aor{t:T_Tensor}(h:pI t):pI (canonT t):=by
  unfold pI canonT at*
  simpa using h
theorem am7{t:T_Tensor}:(valOf t).fType=t.fType:=by
  unfold valOf OA
  split <;> simp_all
theorem aeW{t:T_Tensor}(h:t.fType≠0):(valOf t).fDims=t.fDims:=by
  unfold valOf
  rw[if_neg h]
theorem age{t:T_Tensor}(h:t.fType=0∨oO t=0):Good (valOf t).fDims:=by
  by_cases h0:t.fType=0
  · unfold valOf
    rw[if_pos h0]
    exact ajQ
  · rw[aeW h0]
    exact(NG.1 (h.resolve_left h0)).2.1
theorem ana{k:Int}{d:List Int}(gd:Good d)(hk:k=1∨k=7∨k=9):iW k d=(if k=1 then(⟨k,d,List.replicate (ah d).toNat 0,[],[]⟩,0)else if k=7 then(⟨k,d,[],List.replicate (ah d).toNat 0,[]⟩,0)else(⟨k,d,[],[],List.replicate (ah d).toNat false⟩,0)):=by
  unfold iW
  rw[if_pos hk,if_pos gd]
theorem ay4{x:Int}(h:Word x):Word (BC x):=by
  unfold BC
  split
  · exact⟨by decide,by decide⟩
  · exact h
theorem av4{t:T_Tensor}(h:Ten t):WR (canonT t):=fun j=>by
  rw[List.getD_eq_getElem?_getD]
  cases hj:(canonT t).fF[j]? with
  |none=>exact⟨by decide,by decide⟩
  | some x=>
    have hx:x ∈ (canonT t).fF:=List.mem_of_getElem? hj
    obtain⟨y,hy,rfl⟩:=List.mem_map.1 (show x ∈ t.fF.map BC from hx)
    exact ay4 (h.2.2.2.2 y hy)
theorem least{p:Nat→Prop}: ∀ n,(∃ k,k<n∧p k)→ ∃ k,k<n∧p k∧ ∀ j,j<k→ ¬ p j:=by
  intro n
  induction n with
  |zero=>rintro⟨k,h,_⟩;omega
  | succ n ih=>
    rintro⟨k,h1,h2⟩
    by_cases h: ∃ k,k<n/\p k
    · obtain⟨j,h3,h4,h5⟩:=ih h
      exact⟨j,by omega,h4,h5⟩
    · have hk:k=n:=by
        rcases Nat.lt_or_ge k n with hlt|hge
        · exact absurd ⟨k,hlt,h2⟩ h
        · omega
      subst hk
      exact⟨k,by omega,h2,λj hj hp=>h ⟨j,hj,hp⟩⟩
structure Ins (fu:Nat) (l:List T_Tensor):Prop where
  t:CG fu l
  ok: ∀ t ∈ l,t.fType=0∨oO t=0
  hf:5000<fu
abbrev vL(l:List T_Tensor):=l.map valOf
abbrev cL(l:List T_Tensor):=l.map canonT
section
variable {fu:Nat} {ins:List T_Tensor} {op:Int} {s:T_Setting} {d:List Int}
theorem Hy{i:Nat}(h:i<ins.length):tl (cL ins) i=canonT ins[i]:=by
  unfold tl
  rw[List.getD_eq_getElem?_getD,List.getElem?_eq_getElem (by simpa using h)];simp
theorem P9{i:Nat}(h: ¬ i<ins.length):tl (cL ins) i=noT:=by
  unfold tl
  rw[List.getD_eq_getElem?_getD,List.getElem?_eq_none (by simpa using h)];rfl
theorem X3{i:Nat}(h:i<ins.length):vl (vL ins) i=valOf ins[i]:=by
  unfold vl
  rw[List.getD_eq_getElem?_getD,List.getElem?_eq_getElem (by simpa using h)];simp
theorem ahm{i:Nat}(h: ¬ i<ins.length):vl (vL ins) i=OA:=by
  unfold vl
  rw[List.getD_eq_getElem?_getD,List.getElem?_eq_none (by simpa using h)];rfl
theorem pR(i:Nat):(vl (vL ins) i).fType=(tl (cL ins) i).fType:=by
  by_cases h:i<ins.length
  · rw[X3 h,Hy h,am7];rfl
  · rw[ahm h,P9 h];rfl
theorem U0{i:Nat}(h0:(tl (cL ins) i).fType≠0):(vl (vL ins) i).fDims=(tl (cL ins) i).fDims:=by
  by_cases h:i<ins.length
  · rw[Hy h]at h0
    rw[X3 h,Hy h,aeW (t:=ins[i]) h0];rfl
  · rw[P9 h]at h0;exact absurd rfl h0
theorem aDk(hI:Ins fu ins)(i:Nat):Good (vl (vL ins) i).fDims:=by
  by_cases h:i<ins.length
  · rw[X3 h];exact age (hI.ok _ (List.getElem_mem h))
  · rw[ahm h];exact ajQ
theorem aK9(hI:Ins fu ins): ∀ v ∈ vL ins,Good v.fDims:=by
  intro v hv
  obtain⟨t,ht,rfl⟩:=List.mem_map.1 hv
  exact age (hI.ok t ht)
theorem azp(hI:Ins fu ins)(i:Nat):WR (tl (cL ins) i):=by
  by_cases h:i<ins.length
  · rw[Hy h];exact av4 (hI.t.2.2 _ (List.getElem_mem h)).1
  · rw[P9 h];exact λj=>⟨by simp[noT],by simp[noT]⟩
theorem Gg(hI:Ins fu ins){i:Nat}(h0:(tl (cL ins) i).fType≠0):i<ins.length∧qP (tl (cL ins) i).fType∧Good (tl (cL ins) i).fDims∧pI (tl (cL ins) i):=by
  by_cases h:i<ins.length
  · rw[Hy h]at h0 ⊢
    obtain⟨h1,h2,h3⟩:=NG.1 ((hI.ok _ (List.getElem_mem h)).resolve_left h0)
    exact⟨h,h1,h2,aor h3⟩
  · rw[P9 h]at h0;exact absurd rfl h0
theorem aar(hI:Ins fu ins){i:Nat}(h0:(tl (cL ins) i).fType≠0)(hb:dX (vl (vL ins) i).fDims d=(d,0)):Fit (cL ins) d i:=by
  obtain⟨h1,h2,h3,h4⟩:=Gg hI h0
  rw[U0 h0]at hb
  exact⟨by simpa using h1,h3,hb,h4⟩
theorem aiu(hI:Ins fu ins)(gd:Good d)(h3:ins.length<=3):Sit fu (cL ins) d:=⟨gd,by have:=hI.hf;omega,by simpa using h3,azp hI⟩
theorem aEL(h:op≤3∨(28≤op∧op≤35∧op≠33)∨(38≤op∧op≤41)∨op=43):lt op 0=110:=by
  unfold lt
  repeat' split
  all_goals first|rfl|omega
theorem anS(h:(22≤op∧op≤25)∨op=42):lt op 0=98:=by
  unfold lt
  repeat' split
  all_goals first|rfl|omega
theorem alu{i:Nat}(h:(4≤op∧op≤20)∨op=26∨op=27∨op=33∨op=36):lt op i=102:=by
  unfold lt
  repeat' split
  all_goals first|rfl|omega
theorem XX{i:Nat}(hi:i≠0)(h:(28≤op∧op≤35∧op≠33)∨(37≤op∧op≤41)∨op=43):lt op i=61:=by
  unfold lt
  repeat' split
  all_goals first|rfl|omega
theorem alp(h:22≤op∧op≤25){i:Nat}:lt op i=98:=by
  unfold lt
  repeat' split
  all_goals first|rfl|omega
theorem arD{t a b:Int}(h:nP 110 t a b=true):t=1∨t=7:=by simpa[nP]using h
theorem YM{t a b:Int}(h:nP 102 t a b=true):t=1:=by simpa[nP]using h
theorem OY{t a b:Int}(h:nP 98 t a b=true):t=9:=by simpa[nP]using h
theorem Yx{t a b:Int}(h:nP 61 t a b=true):t=a:=by simpa[nP]using h
theorem aCF{t a b:Int}(h:nP 43 t a b=true):t=b:=by simpa[nP]using h
def NZ(op:Int)(L:List T_Tensor)(d:List Int):Prop:=(op=31∨op=32)->(tl L 0).fType=7-> ∀ k,k<(ah d).toNat->(tl L 1).fI.getD (pl1 (tl L 1).fDims d k) 0≠0
theorem ac1(h:lK op)(hN:Qy op s (vL ins) d)(hl:(vL ins).length=ins.length:=by simp):dR op s (vL ins)=1∨dR op s (vL ins)=7∨dR op s (vL ins)=9:=by
  have h1:=FV h
  have hF:=hN.full
  have t0:=hF.2.2 0 (by omega)
  have k0:=(hN.ty 0 (by have:=hF.1;omega) t0).1
  unfold dR
  split
  · exact .inr (.inr rfl)
  · split
    · rename_i e;exact hN.attr.2 e
    · split
      · rename_i e
        have e1:(ar op).1=3:=by rw[e];rfl
        exact(hN.ty 1 (by have:=hF.1;omega) (hF.2.2 1 (by omega))).1
      · exact k0
theorem az4(hI:Ins fu ins)(h:lK op)(hN:Qy op s (vL ins) d)(hz:NZ op (cL ins) d){k:Nat}(hk:k<(ah d).toNat){F0 I0:List Int}{B0:List Bool}(hB:B0.length=if dR op s (vL ins)=9 then(ah d).toNat else 0):
    Et (dR op s (vL ins)) (ah d).toNat k (λnx F I B=>aN.L1 fu op s (cL ins) (⟨dR op s (vL ins),d,F0,I0,B0⟩,0) (ah d,0) (op,s) nx F I B (k:Int)):=by
  have hr:=FV h
  have hF:=hN.full
  have hl:(vL ins).length=ins.length:=by simp
  have hc:(cL ins).length=ins.length:=by simp
  unfold Full at hF
  rw[hl]at hF
  have hl3:ins.length<=3:=by have:=hF.2.1;omega
  have gd:=hN.sh.1
  have hs:=aiu hI gd hl3
  have hkd:(k:Int)<ah d:=by have:=kQ gd.2.1;omega
  have t0:=hF.2.2 0 (by omega)
  have y0:=hN.ty 0 (by rw[hl];have:=hF.1;omega) t0
  have e0:=pR (ins:=ins) 0
  have z0:(tl (cL ins) 0).fType≠0:=e0 ▸ t0
  have kn:=ac1 h hN
  by_cases h43:op=43
  · subst h43
    have hd:=(hN.sh.2.2.2 (by unfold TG;omega))
    have sb:dX d d=(d,0):=by
      refine Dl gd gd ?_
      unfold bc bc'
      rw[if_neg (by omega),Nat.sub_self]
      simp[Ig]
    have eo:dR 43 s (vL ins)=(tl (cL ins) 0).fType:=by rw[← e0];rfl
    have hn:=arD (aEL (op:=43) (.inr (.inr (.inr rfl))) ▸ y0.2)
    rw[eo]at hB ⊢
    rw[e0]at hn
    refine aye hs (aar hI z0 (by rw[← hd];exact sb)) hkd hB rfl hn λi hi ht h1=> ?_
    obtain⟨w1,w2,w3,w4⟩:=Gg hI ht
    have yi:=(hN.ty i (by rw[hl];exact w1) (by rw[pR];exact ht)).2
    rw[XX (by omega) (.inr (.inr rfl))]at yi
    refine⟨by have:=Yx yi;rw[pR,e0]at this;exact this,?_,w4⟩
    rw[← U0 ht]
    have:=hN.sh.2.2.1 rfl
    rw[hc]at hi
    rcases(by omega:i=1∨i=2)with rfl|rfl
    · exact this.1
    · exact this.2
  have hb:=hN.sh.2.1 h43
  have all : ∀ i : Nat, i < ins.length → (tl (cL ins) i).fType≠0:=fun i hi=>by
    rw[← pR]
    refine hF.2.2 i ?_
    have e : (ar op).1 = (ar op).2 := by unfold ar;repeat' split
                                         all_goals first|rfl|omega
    have:=hF.2.1
    omega
  have fit: ∀ i:Nat,i<ins.length->Fit (cL ins) d i:=λi hi=>aar hI (all i hi) (hb i (by rw[hl];exact hi))
  have ty: ∀ i:Nat,i<ins.length→nP (lt op i) (tl (cL ins) i).fType (tl (cL ins) 0).fType (tl (cL ins) (i - 1)).fType=true:=fun i hi=>by
    have:=(hN.ty i (by rw[hl];exact hi) (by rw[pR];exact all i hi)).2
    rwa[pR,pR,pR]at this
  have h0:0<ins.length:=by have:=hF.1;omega
  by_cases h42:op=42
  · subst h42
    have h3:ins.length=3:=by have:=hF.1;have:=hF.2.1;rw[show(ar 42)=(3,3)from rfl]at*;omega
    have eo:dR 42 s (vL ins)=(tl (cL ins) 1).fType:=by rw[← pR];rfl
    rw[eo]at hB ⊢ kn
    have f2:=ty 2 (by omega)
    rw[show lt 42 2=43 from rfl]at f2
    exact auh hs (fit 0 (by omega)) (fit 1 (by omega)) (fit 2 (by omega)) hkd hB (OY (anS (op:=42) (.inr rfl) ▸ ty 0 h0)) rfl (aCF f2) kn
  by_cases h44:op=44
  · subst h44
    have hd:=(hN.sh.2.2.2 (by unfold TG;omega))
    exact aBq hs (fit 0 h0) (by rw[hd,U0 (all 0 h0)]) hkd hB (Gg hI (all 0 h0)).2.1 kn
  have hlast:ins.length - 1<ins.length:=by omega
  have hu :(tl (cL ins) (ins.length - 1)).fType=(tl (cL ins) 0).fType:=by
    by_cases h1:ins.length=1
    · rw[h1]
    · have h2:ins.length - 1=1:=by
        have e:(ar op).2<=2:=by unfold ar;rw[if_neg h42,if_neg h43];split <;> decide
        have:=hF.2.1
        omega
      have h2':op=23∨op=24∨op=25∨(28≤op∧op≤41):=by
        rcases Classical.em (op=23∨op=24∨op=25∨(28<=op/\op<=41))with q|q
        · exact q
        · have:=hF.2.1
          unfold ar at this
          rw[if_neg h42,if_neg h43,if_neg q]at this
          omega
      rw[h2]
      have f1:=ty 1 (by omega)
      have f0:=ty 0 h0
      by_cases q1:22<=op/\op<=25
      · rw[alp q1]at f1 f0;rw[OY f1,OY f0]
      · by_cases q2:op=33∨op=36
        · rw[alu (by omega)]at f1 f0;rw[YM f1,YM f0]
        · rw[XX (by omega) (by omega)]at f1;exact Yx f1
  have f0:=ty 0 h0
  have eo: ¬ ((22≤op∧op≤27)∨(37≤op∧op≤41))→dR op s (vL ins)=(tl (cL ins) 0).fType:=fun q=>by
    unfold dR;rw[if_neg q,if_neg h44,if_neg h42,e0]
  have eb:((22<=op/\op<=27)∨(37<=op/\op<=41))->dR op s (vL ins)=9:=λq=>by unfold dR;rw[if_pos q]
  refine arN h42 h43 h44 hs (fit 0 h0) (hc.symm ▸ fit _ hlast) hkd hB rfl (hc.symm ▸ hu) ?_
  have h1:=h.1
  have h2:=h.2
  by_cases q1:(22<=op/\op<=25)
  · rw[alp q1]at f0
    exact .inr (.inr ⟨OY f0,eb (by omega)⟩)
  by_cases q2:op=26∨op=27
  · rw[alu (by omega)]at f0
    exact .inl ⟨YM f0,.inr ⟨eb (by omega),q2.elim .inl λq=> .inr (.inl q)⟩⟩
  by_cases q3:37<=op/\op<=41
  · have ho:FP op:=by unfold FP;omega
    rcases(Gg hI (all 0 h0)).2.1 with e|e|e
    · exact .inl ⟨e,.inr ⟨eb (by omega),.inr (.inr ho)⟩⟩
    · exact .inr (.inl ⟨e,.inr ⟨eb (by omega),ho⟩⟩)
    · exact .inr (.inr ⟨e,eb (by omega)⟩)
  have eo':=eo (by omega)
  rcases(Gg hI (all 0 h0)).2.1 with e|e|e
  · exact .inl ⟨e,.inl (eo'.trans e)⟩
  · refine .inr (.inl ⟨e,.inl ⟨eo'.trans e,fun ho=> ?_⟩⟩)
    have:=hF.1
    have:(ar op).1=2:=by rcases ho with rfl|rfl <;> rfl
    have e1:(cL ins).length - 1=1:=by
      have e2:(ar op).2=2:=by rcases ho with rfl|rfl <;> rfl
      have:=hF.2.1
      omega
    rw[e1]
    exact hz ho e k hk
  · exact .inr (.inr ⟨e,eo'.trans e⟩)
theorem ayB(hI:Ins fu ins)(h:lK op)(hN:Qy op s (vL ins) d){t:T_Tensor}(td:t.fDims=d):
    (NZ op (cL ins) d/\fU fu ⟨op,s,cL ins,t,ah d⟩=some false)∨(¬ NZ op (cL ins) d/\fU fu ⟨op,s,cL ins,t,ah d⟩=some true):=by
  have hr:=FV h
  have hF:=hN.full
  have hl:(vL ins).length=ins.length:=by simp
  unfold Full at hF
  rw[hl]at hF
  have gd:=hN.sh.1
  have h0:0<ins.length:=by have:=hF.1;omega
  have a0:at? (cL ins) (0:Int)=some (tl (cL ins) 0):=qx (by simpa using h0)
  have e0:fU fu ⟨op,s,cL ins,t,ah d⟩=if op=31∨op=32 then(if(tl (cL ins) 0).fType=7 then fU.k1 fu ⟨op,s,cL ins,t,ah d⟩else some false)else some false:=by
    unfold fU;try unfold jn
    dsimp only
    rw[a0]
    simp only[ob_some]
    by_cases h1:op=31
    · rw[if_pos h1,if_pos (show op=31∨op=32 from .inl h1)]
    · rw[if_neg h1]
      by_cases h2:op=32
      · rw[if_pos h2,if_pos (show op=31∨op=32 from .inr h2)]
      · rw[if_neg h2,if_neg (λhh=>hh.elim h1 h2)]
  rw[e0]
  by_cases ho:op=31∨op=32
  · rw [if_pos ho]
    by_cases ht:(tl (cL ins) 0).fType=7
    · rw [if_pos ht]
      have e1:(ar op).1=2:=by rcases ho with rfl|rfl <;> rfl
      have h1:1<ins.length:=by have:=hF.1;omega
      have hl3:ins.length<=3:=by have:=hF.2.1;omega
      have hs:=aiu hI gd hl3
      have t1:=hF.2.2 1 (by omega)
      rw[pR]at t1
      have fi:=aar (d:=d) hI t1 (hN.sh.2.1 (by omega) 1 (by rw[hl];exact h1))
      have tb:(tl (cL ins) 1).fType=7:=by
        have y1:=(hN.ty 1 (by rw[hl];exact h1) (by rw[pR];exact t1)).2
        rw[XX (by omega) (by omega)]at y1
        have:=Yx y1
        rw[pR,pR]at this
        exact this.trans ht
      obtain⟨ty,dd,F,I,B⟩:=t
      obtain rfl:dd=d:=td
      have hf:=hI.hf
      have hp:=kQ gd.2.1
      have hq:=gd.2.2
      have body: ∀ (k:Nat) (next:Int→Option Bool),(k:Int)<ah dd→fU.L1 fu ⟨op,s,cL ins,⟨ty,dd,F,I,B⟩,ah dd⟩ next (k:Int)=if(tl (cL ins) 1).fI.getD (pl1 (tl (cL ins) 1).fDims dd k) 0=0 then some true else next ((k+1:Nat):Int):=by
        intro k next hk
        unfold fU.L1
        dsimp only
        rw[if_pos hk,show at? (cL ins) (1:Int)=some (tl (cL ins) 1)from qx (by simpa using h1),ob_some]
        have hpl:gY fu ⟨op,s,cL ins,⟨ty,dd,F,I,B⟩,ah dd⟩ 1 (k:Int)=some ((pl1 (tl (cL ins) 1).fDims dd k:Nat):Int):=y8 (i:=1) hs fi hk
        rw[hpl,ob_some,xh hs fi tb hk,ob_some,gU (by omega)]
      unfold fU.k1 fU.W1
      by_cases hz: ∃ k,k<(ah dd).toNat/\(tl (cL ins) 1).fI.getD (pl1 (tl (cL ins) 1).fDims dd k) 0=0
      · refine .inr ⟨fun hn=> ?_,?_⟩
        · obtain⟨k,w1,w2⟩:=hz
          exact hn ho ht k w1 w2
        · obtain⟨k0,w1,w2,w3⟩:=least _ hz
          refine yf (body:=λnext s_1=>_) k0 (λk=>(k:Int)) (λ_=>True) (λr=>r=some true) ?_ ?_ trivial (by omega)
          · intro k hk _ next hn
            show fU.L1 fu _ next (k:Int)=_
            rw[body k next (by omega),if_neg (w3 k hk)]
            exact hn trivial
          · intro _ next
            show fU.L1 fu _ next (k0:Int)=_
            rw[body k0 next (by omega),if_pos w2]
      · refine .inl ⟨fun _ _ k hk h0=>hz ⟨k,hk,h0⟩,?_⟩
        refine yf (body:=λnext s_1=>_) (ah dd).toNat (λk=>(k:Int)) (λ_=>True) (λr=>r=some false) ?_ ?_ trivial (by omega)
        · intro k hk _ next hn
          show fU.L1 fu _ next (k:Int)=_
          rw[body k next (by omega),if_neg (λh0=>hz ⟨k,hk,h0⟩)]
          exact hn trivial
        · intro _ next
          show fU.L1 fu _ next (((ah dd).toNat:Nat):Int)=_
          unfold fU.L1
          dsimp only
          rw[if_neg (by omega)]
    · rw[if_neg ht];exact .inl ⟨λ_ h=>absurd h ht,rfl⟩
  · rw[if_neg ho];exact .inl ⟨λh=>absurd h ho,rfl⟩
end
end Go.Av
set_option linter.unusedSimpArgs false
namespace Go.Av
def jT(ty:Int)(d:List Int)(S:S3):T_Tensor:=⟨ty,d,S.1,S.2.1,S.2.2⟩
def qF{α:Type}(g:Nat->α)(a b:Nat):List α:=(List.range' a (b - a)).map g
def cu(ty:Int)(c:Nat->Int×Int×Bool)(a b:Nat):S3:=(if ty=1 then qF (λj=>(c j).1) a b else [],if ty=7 then qF (λj=>(c j).2.1) a b else [],if ty=9 then qF (λj=>(c j).2.2) a b else [])
theorem adM{α:Type}{g:Nat->α}{a b:Nat}:(qF g a b).length=b - a:=by simp[qF]
theorem Fz{α:Type}{g:Nat→α}{a b c:Nat}(h1:a≤b)(h2:b≤c):qF g a b++qF g b c=qF g a c:=by
  unfold qF
  rw[← List.map_append]
  congr 1
  have:= @List.range'_append_1 a (b - a) (c - b)
  rw[show a+(b - a)=b by omega,show b - a+(c - b)=c - a by omega]at this
  exact this
theorem Xj{α:Type}{n:Nat}{g:Nat→α}{z:α}:fl n 0 n g z=qF g 0 n:=by
  unfold fl qF
  rw[Nat.sub_zero,← List.range_eq_range']
  refine List.map_congr_left λj hj=> ?_
  rw[if_pos ⟨by omega,List.mem_range.1 hj⟩]
theorem ann{ty:Int}{n:Nat}{c:Nat→Int×Int×Bool}:st ty n 0 c n=cu ty c 0 n:=by
  unfold st cu
  rw[Xj,Xj,Xj]
theorem IQ{ty:Int}{d:List Int}(gd:Good d)(hk:ty=1∨ty=7∨ty=9)(lo:Nat)(c:Nat→Int×Int×Bool):iW ty d=(jT ty d (st ty (ah d).toNat lo c lo),0):=by
  rw[ana gd hk]
  unfold jT st
  rw[Pe,Pe,Pe]
  rcases hk with rfl|rfl|rfl <;> rfl
def iota(lo hi:Nat):List Int:=(List.range' lo (hi - lo)).map λ(j:Nat)=>(j:Int)
theorem aJM{lo k:Nat}:iota lo (lo+k+1)=iota lo (lo+k)++[((lo+k:Nat):Int)]:=by
  unfold iota
  rw[show lo+k+1 - lo=k+1 by omega,show lo+k - lo=k by omega,List.range'_1_concat,List.map_append]
  rfl
section
variable {fu:Nat} {ins:List T_Tensor} {op ty:Int} {s:T_Setting} {d:List Int} {c:Nat->Int×Int×Bool} {lo hi:Nat}
theorem au4(gd:Good d)(hk:ty=1∨ty=7∨ty=9){S:S3}{k:Nat}(h:okS ty (ah d).toNat k S):oO (jT ty d S)=0:=by
  have hp:=kQ gd.2.1
  refine NG.2 ⟨hk,gd,?_,?_,?_⟩
  · show(S.1.length:Int)=if ty=1 then ah d else 0
    rw[h.1];split <;> omega
  · show(S.2.1.length:Int)=if ty=7 then ah d else 0
    rw[h.2.1];split <;> omega
  · show(S.2.2.length:Int)=if ty=9 then ah d else 0
    rw[h.2.2.1];split <;> omega
theorem adN{n:Int}:ah [n]=n:=by simp[ah]
theorem aDl{n:Nat}(h:n≤4096):Good [(n:Int)]:=by
  refine⟨by simp,λx hx=> ?_,by rw[adN];omega⟩
  have:x=n:=by simpa using hx
  omega
theorem aKK(gd:Good d)(hk:ty=1∨ty=7∨ty=9)(h1:lo≤hi)(h2:(hi:Int)≤ah d):KP (jT ty d (st ty (ah d).toNat lo c hi)) [((hi - lo:Nat):Int)] (iota lo hi)=(jT ty [((hi - lo:Nat):Int)] (cu ty c lo hi),0):=by
  have hp:=kQ gd.2.1
  have hq:=gd.2.2
  have ok:okS ty (ah d).toNat hi (st ty (ah d).toNat lo c hi):=wO
  have hg:Good [((hi - lo:Nat):Int)]:=aDl (by omega)
  have hn:(iW ty [((hi - lo:Nat):Int)]).2=0:=by rw[IQ hg hk 0 c]
  have hb: ¬ (iota lo hi).any (sS ((jT ty d (st ty (ah d).toNat lo c hi)).fF.length+(jT ty d (st ty (ah d).toNat lo c hi)).fI.length+(jT ty d (st ty (ah d).toNat lo c hi)).fB.length))=true:=by
    intro hh
    obtain⟨x,hx,hx2⟩:=List.any_eq_true.1 hh
    obtain⟨k,hk',rfl⟩:=List.mem_map.1 hx
    have hk2:=List.mem_range'_1.1 hk'
    have e:(((jT ty d (st ty (ah d).toNat lo c hi)).fF.length:Int)+(jT ty d (st ty (ah d).toNat lo c hi)).fI.length+(jT ty d (st ty (ah d).toNat lo c hi)).fB.length)=ah d:=by
      show(((st ty (ah d).toNat lo c hi).1.length:Int)+(st ty (ah d).toNat lo c hi).2.1.length+(st ty (ah d).toNat lo c hi).2.2.length)=ah d
      rw[ok.1,ok.2.1,ok.2.2.1]
      rcases hk with rfl|rfl|rfl <;> simp <;> omega
    rw[e]at hx2
    simp only[sS,Bool.or_eq_true,decide_eq_true_eq]at hx2
    omega
  unfold KP
  rw[if_pos (au4 gd hk ok),if_pos (show(iW (jT ty d _).fType _).2=0 from hn),if_pos (by rw[adN];simp[iota]),if_neg hb]
  have hm: ∀ {α:Type} (g:Nat→α) (z:α),(iota lo hi).map (nS (fl (ah d).toNat lo hi g z) z)=qF g lo hi:=fun g z=>by
    unfold iota qF
    rw[List.map_map]
    refine List.map_congr_left λk hk'=> ?_
    have hk2:=List.mem_range'_1.1 hk'
    show nS _ z (k:Int)=_
    rw[nS,if_pos (by omega),Int.toNat_natCast,ak6 (by omega),if_pos (by omega)]
  rcases hk with rfl|rfl|rfl
  · show(if(1:Int)=1 then _ else _,(0:Int))=_
    rw[if_pos rfl]
    show((⟨1,_,(iota lo hi).map (nS (fl _ lo hi _ 0) 0),[],[]⟩:T_Tensor),(0:Int))=_
    rw[hm];rfl
  · show(if(7:Int)=1 then _ else if(7:Int)=7 then _ else _,(0:Int))=_
    rw[if_neg (by decide),if_pos rfl]
    show((⟨7,_,[],(iota lo hi).map (nS (fl _ lo hi _ 0) 0),[]⟩:T_Tensor),(0:Int))=_
    rw[hm];rfl
  · show(if(9:Int)=1 then _ else if(9:Int)=7 then _ else _,(0:Int))=_
    rw[if_neg (by decide),if_neg (by decide)]
    show((⟨9,_,[],[],(iota lo hi).map (nS (fl _ lo hi _ false) false)⟩:T_Tensor),(0:Int))=_
    rw[hm];rfl
theorem aB7(gd:Good d)(hk:ty=1∨ty=7∨ty=9)(hf:5000<fu)(h1:lo≤hi)(h2:(hi:Int)≤ah d)(x11:T_Tensor×Int)(hx:x11.1.fType=ty∧x11.1.fDims=d):
    bu.W5 fu (lo:Int) (hi:Int) x11 (st ty (ah d).toNat lo c hi).1 (st ty (ah d).toNat lo c hi).2.1 (st ty (ah d).toNat lo c hi).2.2 [] (lo:Int)=some (jT ty [((hi - lo:Nat):Int)] (cu ty c lo hi),0):=by
  have hp:=kQ gd.2.1
  have hq:=gd.2.2
  have h8:=gd.1
  have ok:okS ty (ah d).toNat hi (st ty (ah d).toNat lo c hi):=wO
  have key:=yf (body:=fun next s_1=>bu.L5 fu (lo:Int) (hi:Int) x11 (st ty (ah d).toNat lo c hi).1 (st ty (ah d).toNat lo c hi).2.1 (st ty (ah d).toNat lo c hi).2.2 (fun x408 x409=>next (x408,x409)) s_1.1 s_1.2) (hi - lo)
    (λk=>(iota lo (lo+k),((lo+k:Nat):Int))) (λ_=>True) (λr=>r=some (jT ty [((hi - lo:Nat):Int)] (cu ty c lo hi),0)) ?_ ?_ trivial (n:=fu) (by omega)
  · simp only[Nat.add_zero]at key
    rw[show iota lo lo=[]by simp[iota]]at key
    exact key
  · intro k hk' _ next hn
    show bu.L5 fu _ _ _ _ _ _ _ (iota lo (lo+k)) ((lo+k:Nat):Int)=_
    unfold bu.L5
    rw[if_pos (by omega),aU (by simp[iota];omega),gU (by omega)]
    have:=hn trivial
    rw[show lo+(k+1)=lo+k+1 by omega,aJM]at this
    exact this
  · intro _ next
    show bu.L5 fu _ _ _ _ _ _ _ (iota lo (lo+(hi - lo))) ((lo+(hi - lo):Nat):Int)=_
    rw[show lo+(hi - lo)=hi by omega]
    unfold bu.L5 bu.k3
    rw[if_neg (by omega),hx.1,hx.2,bP (by omega) (by omega),show(hi:Int) - (lo:Int)=((hi - lo:Nat):Int)by omega]
    have l1:(st ty (ah d).toNat lo c hi).1.length<=4096:=by rw[ok.1];split <;> omega
    have l2:(st ty (ah d).toNat lo c hi).2.1.length<=4096:=by rw[ok.2.1];split <;> omega
    have l3:(st ty (ah d).toNat lo c hi).2.2.length<=4096:=by rw[ok.2.2.1];split <;> omega
    have hP:=aoy (fu:=fu) (t:=jT ty d (st ty (ah d).toNat lo c hi)) (d:=[((hi - lo:Nat):Int)]) (l:=iota lo hi) ⟨by show d.length*8≤_;omega,by show(st ty (ah d).toNat lo c hi).1.length≤_;omega,by show(st ty (ah d).toNat lo c hi).2.1.length≤_;omega,by show(st ty (ah d).toNat lo c hi).2.2.length≤_;omega⟩
      ⟨by show d.length<_;omega,by show(st ty (ah d).toNat lo c hi).1.length<_;omega,by show(st ty (ah d).toNat lo c hi).2.1.length<_;omega,by show(st ty (ah d).toNat lo c hi).2.2.length<_;omega⟩ (by unfold Short;simp) (by simp;omega) (by unfold Short;simp[iota];omega) (by simp[iota];omega)
    rw[aKK gd hk h1 h2]at hP
    refine(congrArg (λr:Option (T_Tensor×Int)=>r.bind λx407=>some (x407.1,x407.2)) hP).trans ?_
    rw[ob_some]
theorem aJe(hT:CG fu ins)(hf:5000<fu):(∃ e,e≠0∧aN fu op s ins=some (noT,e)∧ ∀ lo hi,bu fu op s ins lo hi=some (noT,e))∨
    ∃ ty d c,(ty=1∨ty=7∨ty=9)∧Good d∧aN fu op s ins=some (jT ty d (cu ty c 0 (ah d).toNat),0)∧
      (∀ lo hi:Int,(lo<0∨hi<lo∨ah d<hi)->bu fu op s ins lo hi=some (noT,2))/\
      ∀ lo hi:Nat,lo<=hi->(hi:Int)<=ah d->bu fu op s ins (lo:Int) (hi:Int)=some (jT ty [((hi - lo:Nat):Int)] (cu ty c lo hi),0):=by
  by_cases h:lK op
  · have hh : rO fu op=some true:=by
      unfold rO
      rw[if_pos h.1,decide_eq_true h.2]
    have eD:aN fu op s ins=match sG ins with|some e=>some (noT,e)|none=>aN.k1 fu op s ins (cL ins):=by
      unfold aN aN.W5;try unfold jn
      rw[hh,ob_some,if_pos rfl,aka hT (L:=aN.L5 fu op s ins) (k1:=aN.k1 fu op s ins) (er:=λe=>some (noT,e)) (λnx acc i=>rfl)]
      all_goals rfl
    have eP: ∀ lo hi,bu fu op s ins lo hi=match sG ins with|some e=>some (noT,e)|none=>bu.k1 fu op s ins lo hi (cL ins):=fun lo hi=>by
      unfold bu bu.W6;try unfold jn
      rw[hh,ob_some,if_pos rfl,aka hT (L:=bu.L6 fu op s ins lo hi) (k1:=bu.k1 fu op s ins lo hi) (er:=λe=>some (noT,e)) (λnx acc i=>rfl)]
      all_goals rfl
    cases hb:sG ins with
    | some e=>
      rw[hb]at eD
      refine .inl ⟨e,aCB hb,eD,λlo hi=> ?_⟩
      have:=eP lo hi
      rw[hb]at this
      exact this
    | none=>
      have hI:Ins fu ins:=⟨hT,aEh hb,hf⟩
      rw[hb]at eD
      have eP': ∀ lo hi,bu fu op s ins lo hi=bu.k1 fu op s ins lo hi (cL ins):=fun lo hi=>by
        have:=eP lo hi
        rw[hb]at this
        exact this
      rcases aE3 (fu:=fu) (s:=s) (l:=vL ins) h (aDk hI) (aK9 hI) (by omega)with⟨d,hN,hnode⟩|⟨l',e,he,hnode⟩
      · have gd:=hN.sh.1
        have h8:=gd.1
        have kn:=ac1 h hN
        have hz:mD d=(ah d,0):=by simp only[mD,if_pos gd]
        have hT2:(iW (dR op s (vL ins)) d).2=0:=by rw[IQ gd kn 0 (λ_=>(0,0,false))]
        have kD: ∀ b,fU fu ⟨op,s,cL ins,(iW (dR op s (vL ins)) d).1,ah d⟩=some b→aN.k1 fu op s ins (cL ins)=if b=true then some (noT,10)else aN.W1 fu op s (cL ins) (iW (dR op s (vL ins)) d) (ah d,0) (op,s) (iW (dR op s (vL ins)) d).1.fF (iW (dR op s (vL ins)) d).1.fI (iW (dR op s (vL ins)) d).1.fB 0:=fun b hb=>by
          unfold aN.k1
          rw[QY hT,ob_some,hnode,ob_some,if_pos rfl]
          show((at? [vZ (dR op s (vL ins)) d] 0).bind _)=_
          rw[show at? [vZ (dR op s (vL ins)) d] (0:Int)=some (vZ (dR op s (vL ins)) d)from rfl,ob_some]
          dsimp only[vZ]
          rw[Tm (by unfold Short;omega) (by omega),ob_some,sU (by unfold Short;omega) (by omega),ob_some,hz,if_pos hT2]
          dsimp only
          rw[hb,ob_some,PT h,ob_some];rfl
        have kP: ∀ b,fU fu ⟨op,s,cL ins,(iW (dR op s (vL ins)) d).1,ah d⟩=some b→ ∀ lo hi,bu.k1 fu op s ins lo hi (cL ins)=if b=true then some (noT,10)else if lo<0 then some (noT,2)else if hi<lo then some (noT,2)else if ah d<hi then some (noT,2)else
            bu.W1 fu op s lo hi (cL ins) (iW (dR op s (vL ins)) d) (ah d,0) (op,s) (iW (dR op s (vL ins)) d).1.fF (iW (dR op s (vL ins)) d).1.fI (iW (dR op s (vL ins)) d).1.fB lo:=λb hb lo hi=>by
          unfold bu.k1;try unfold jn
          rw[QY hT,ob_some,hnode,ob_some,if_pos rfl]
          show((at? [vZ (dR op s (vL ins)) d] 0).bind _)=_
          rw[show at? [vZ (dR op s (vL ins)) d] (0:Int)=some (vZ (dR op s (vL ins)) d)from rfl,ob_some]
          dsimp only[vZ]
          rw[Tm (by unfold Short;omega) (by omega),ob_some,sU (by unfold Short;omega) (by omega),ob_some,hz,if_pos hT2]
          dsimp only
          rw[hb,ob_some]
          unfold bu.k2
          rw[PT h,ob_some];rfl
        rcases ayB hI h hN (t:=(iW (dR op s (vL ins)) d).1) (by rw[IQ gd kn 0 (λ_=>(0,0,false))];rfl)with⟨hnz,he⟩|⟨hnz,he⟩
        · obtain⟨c,hw⟩:=aGt (fu:=fu) (op:=op) (s:=s) (L:=cL ins) (F0:=(st (dR op s (vL ins)) (ah d).toNat 0 (fun _=>(0,0,false)) 0).1) (I0:=(st (dR op s (vL ins)) (ah d).toNat 0 (fun _=>(0,0,false)) 0).2.1) (B0:=(st (dR op s (vL ins)) (ah d).toNat 0 (fun _=>(0,0,false)) 0).2.2)
            (λk hk=>az4 hI h hN hnz hk (wO (ty:=dR op s (vL ins)) (n:=(ah d).toNat) (lo:=0) (k:=0) (c:=λ_=>(0,0,false))).2.2.1)
          have hst: ∀ lo,st (dR op s (vL ins)) (ah d).toNat 0 (fun _=>(0,0,false)) 0=st (dR op s (vL ins)) (ah d).toNat lo c lo:=fun lo=>by
            unfold st
            simp only[Pe]
          refine .inr ⟨dR op s (vL ins),d,c,kn,gd,?_,λlo hi hbad=> ?_,λlo hi h1 h2=> ?_⟩
          · rw[eD]
            dsimp only
            rw[kD _ he,if_neg (by decide),IQ gd kn 0 (λ_=>(0,0,false)),← ann]
            exact aoq hw kn gd (by omega) (hst 0)
          · rw[eP',kP _ he,if_neg (by decide)]
            by_cases q1:lo<0
            · rw[if_pos q1]
            · rw[if_neg q1]
              by_cases q2:hi<lo
              · rw[if_pos q2]
              · rw[if_neg q2,if_pos (by omega)]
          · rw[eP',kP _ he,if_neg (by decide),if_neg (by omega),if_neg (by omega),if_neg (by omega),IQ gd kn 0 (fun _=>(0,0,false))]
            refine(apQ hw kn gd (by omega) h1 h2 (hst lo)).trans ?_
            exact aB7 gd kn hf h1 h2 _ ⟨rfl,rfl⟩
        · refine .inl ⟨10,by decide,?_,fun lo hi=> ?_⟩
          · rw[eD];dsimp only;rw[kD _ he,if_pos rfl]
          · rw[eP',kP _ he,if_pos rfl]
      · refine .inl ⟨e,he,?_,fun lo hi=> ?_⟩
        · rw[eD]
          dsimp only
          unfold aN.k1
          rw[QY hT,ob_some,hnode,ob_some,if_neg he];rfl
        · rw[eP']
          unfold bu.k1
          rw[QY hT,ob_some,hnode,ob_some,if_neg he];rfl
  · have hh:rO fu op=some false:=by
      unfold rO
      by_cases h1:1<=op
      · rw[if_pos h1,decide_eq_false (λh2=>h ⟨h1,h2⟩)]
      · rw[if_neg h1]
    refine .inl ⟨1,by decide,?_,λlo hi=> ?_⟩
    · unfold aN;try unfold jn
      rw[hh,ob_some,if_neg (by decide)];rfl
    · unfold bu;try unfold jn
      rw[hh,ob_some,if_neg (by decide)];rfl
end
end Go.Av
namespace Go.Av
theorem ZM{α:Type}[DecidableEq α]{a b:List α}(hl:a.length=b.length){fu:Nat}(hf:a.length<fu)(hs:a.length≤140737488355328){L:(Int→Option Bool)→Int→Option Bool}{c:Option Bool}
    (hL: ∀ nx i,L nx i=if i<(a.length:Int)then((at? a i).bind λx=>(at? b i).bind λy=>if x=y then(nx (wk .i64 (i+1)))else some false)else c):bz L fu 0=if a=b then c else some false:=by
  refine(vY (λ(i:Int)=>if a.drop i.toNat=b.drop i.toNat then c else some false) (λi=>0<=i/\i<=a.length) (λi=>a.length - i.toNat) ?_ fu 0 (by simp) (by simp;omega)).trans (by simp)
  rintro i ⟨h0,h1⟩ next hn
  obtain⟨k,rfl⟩:=Int.eq_ofNat_of_zero_le h0
  rw[hL]
  simp only[Int.toNat_natCast]
  by_cases hk:k<a.length
  · have hkb:k<b.length:=by omega
    have hd:a.drop k=b.drop k ↔ a[k]=b[k]∧a.drop (k+1)=b.drop (k+1):=by
      rw[List.drop_eq_getElem_cons hk,List.drop_eq_getElem_cons hkb];exact List.cons_eq_cons
    rw[if_pos (by omega),at?_get hk,ob_some,at?_get hkb,ob_some,gU (by omega)]
    by_cases he:a[k]=b[k]
    · rw[if_pos he,hn _ (by omega) (by simp;omega)]
      by_cases h2:a.drop (k+1)=b.drop (k+1)
      · rw[if_pos (by simpa using h2),if_pos (hd.2 ⟨he,h2⟩)]
      · rw[if_neg (by simpa using h2),if_neg (λh=>h2 (hd.1 h).2)]
    · rw[if_neg he,if_neg (λh=>he (hd.1 h).1)]
  · rw[if_neg (by omega),if_pos (by rw[List.drop_of_length_le (by omega),List.drop_of_length_le (by omega)])]
theorem refSame_spec{fu:Nat}{a b:T_Tensor}(hs:Small a)(hf:Fuel fu a):dE fu a b=some (sameT a b):=by
  obtain⟨s1,s2,s3,s4⟩:=hs
  obtain⟨f1,f2,f3,f4⟩:=hf
  unfold dE sameT;try unfold jn
  by_cases h1:a.fType=b.fType
  · rw [if_pos h1,afl (by unfold Short;omega) f1,ob_some]
    by_cases h2:a.fDims=b.fDims
    · rw [if_pos (by simpa using h2)]
      by_cases l3:a.fF.length=b.fF.length
      · rw [if_pos (by omega)]
        by_cases l4:a.fI.length=b.fI.length
        · rw[if_pos (by omega)]
          by_cases l5:a.fB.length=b.fB.length
          · rw[if_pos (by omega)]
            unfold dE.k1 dE.W3;try unfold jn
            rw[ZM (L:=λnext s=>dE.L3 fu a b next s) (a:=a.fF) (b:=b.fF) l3 f2 (by omega) (c:=dE.k2 fu a b) (λnx i=>rfl)]
            unfold dE.k2 dE.W2;try unfold jn
            rw[ZM (L:=λnext s=>dE.L2 fu a b next s) (a:=a.fI) (b:=b.fI) l4 f3 (by omega) (c:=dE.k3 fu a b) (λnx i=>rfl)]
            unfold dE.k3 dE.W1
            rw[ZM (L:=λnext s=>dE.L1 fu a b next s) (a:=a.fB) (b:=b.fB) l5 f4 (by omega) (c:=some true) (λnx i=>by unfold dE.L1;simp only[beq_iff_eq])]
            by_cases e3:a.fF=b.fF <;> by_cases e4:a.fI=b.fI <;> by_cases e5:a.fB=b.fB <;> simp[h1,h2,e3,e4,e5]
          · rw[if_neg (by omega)]
            have: ¬ a.fB=b.fB:=λh=>l5 (by rw[h])
            simp[this]
        · rw[if_neg (by omega)]
          have: ¬ a.fI=b.fI:=λh=>l4 (by rw[h])
          simp[this]
      · rw[if_neg (by omega)]
        have: ¬ a.fF=b.fF:=λh=>l3 (by rw[h])
        simp[this]
    · rw[if_neg (by simpa using h2)]
      simp[h2]
  · rw[if_neg h1]
    simp[h1]
end Go.Av
