/- Layer 4, shapes: what the plain functions come to. Strides, indices, offsets. Copies. Lists of numbers alike. Shapes brought together. Indices of a place. From a place to where it stands in a smaller shape; ShapeBoth: the law over the plain functions. Layer 5: sameness, whether a tensor may be, copies whose no numbers are one. Any tensors: as constant values; whether each may be. New tensors, elements picked. Operators of two inputs, element by element: the types and the shape of the output. Operators of two inputs: where elements stand, lists that are filled one by one. Floats: a product and a sum always come to something. Floats: a quotient always comes to something. Floats: sums, products, the lesser, the greater and sameness do not hang on the order. Floats: what is left by another one, and powers, always come to something. Floats: what is left by another one always comes to something. Operators of two inputs: all elements of the output, one by one. Made by a program of mine. Operators of two inputs: what ewise.Do comes to, or that it is refused. The document's size, and whether a tensor may be. The document's indices of a place. The document's new and picked tensors. The document's shapes brought together, and places in the smaller one. Sameness of two tensors. Broadcasting is nothing but expanding: tensors expanded to the output's dims. Conditions: those that each names. -/
import Derived.Test.YteafmomjfnlkgaaGreatQS
import Derived.Test.YteafmomjfnlkgaaGreatPl
set_option linter.unusedVariables false
namespace Go.Av
def fstAt(p:Int→Bool):Nat→List Int→Int
  |_,[]=> -1
  |i,x::l=>if p x=true then i else fstAt p (i+1) l
theorem fstAt_any(p:Int→Bool): ∀ (l:List Int) (i:Nat),decide (0≤fstAt p i l)=l.any p
  |[],i=>rfl
  | x::l,i=>by
    simp only[fstAt,List.any_cons]
    by_cases h:p x=true
    · simp[h]
    · simp[h,← fstAt_any p l (i+1)]
def Short(l:List Int):Prop:=l.length<=140737488355328
theorem wk_succ{k:Nat}(h:k<=140737488355328):wk .i64 ((k:Int)+1)=((k+1:Nat):Int):=by rw[wk_eq (by omega) (by omega)];omega
theorem IndexFunc_spec{fu:Nat}{l:List Int}{p:Int→Option Bool}{q:Int→Bool}(hp: ∀ x,p x=some (q x))(hl:Short l)(hf:l.length<fu):slices_IndexFunc_int fu l p=some (fstAt q 0 l):=by
  unfold slices_IndexFunc_int slices_IndexFunc_int.W1
  refine cloop_ind (λ(i:Int)=>some (fstAt q i.toNat (l.drop i.toNat))) (λi=>0<=i/\i<=l.length) (λi=>l.length - i.toNat) ?_ fu 0 (by omega) (by simp;omega)
  rintro i ⟨h0,h1⟩ next hn
  obtain⟨k,rfl⟩:=Int.eq_ofNat_of_zero_le h0
  unfold slices_IndexFunc_int.L1
  simp only[Int.toNat_natCast]
  by_cases hk:k<l.length
  · rw[if_pos (by omega),at?_get hk,ob_some,hp,ob_some,List.drop_eq_getElem_cons hk]
    simp only[fstAt]
    by_cases hq:q l[k]=true
    · rw[if_pos hq,if_pos hq]
    · rw[if_neg hq,if_neg hq,wk_succ (by unfold Short at hl;omega),hn _ (by omega) (by simp;omega)]
      simp
  · rw[if_neg (by omega),List.drop_of_length_le (by omega)];rfl
theorem ContainsFunc_spec{fu:Nat}{l:List Int}{p:Int→Option Bool}{q:Int→Bool}(hp: ∀ x,p x=some (q x))(hl:Short l)(hf:l.length<fu):slices_ContainsFunc_int fu l p=some (l.any q):=by
  unfold slices_ContainsFunc_int
  rw[IndexFunc_spec hp hl hf,ob_some,fstAt_any]
theorem IndexI_spec{fu:Nat}{l:List Int}{x:Int}(hl:Short l)(hf:l.length<fu):slices_Index_int fu l x=some (fstAt (fun y=>decide (x=y)) 0 l):=by
  unfold slices_Index_int slices_Index_int.W1
  refine cloop_ind (λ(i:Int)=>some (fstAt (λy=>decide (x=y)) i.toNat (l.drop i.toNat))) (λi=>0<=i/\i<=l.length) (λi=>l.length - i.toNat) ?_ fu 0 (by omega) (by simp;omega)
  rintro i ⟨h0,h1⟩ next hn
  obtain⟨k,rfl⟩:=Int.eq_ofNat_of_zero_le h0
  unfold slices_Index_int.L1
  simp only[Int.toNat_natCast]
  by_cases hk:k<l.length
  · rw[if_pos (by omega),at?_get hk,ob_some,List.drop_eq_getElem_cons hk]
    simp only[fstAt]
    by_cases hq:x=l[k]
    · rw[if_pos hq,if_pos (by simpa using hq)]
    · rw[if_neg hq,if_neg (by simpa using hq),wk_succ (by unfold Short at hl;omega),hn _ (by omega) (by simp;omega)]
      simp
  · rw[if_neg (by omega),List.drop_of_length_le (by omega)];rfl
theorem Contains_spec{fu:Nat}{l:List Int}{x:Int}(hl:Short l)(hf:l.length<fu):slices_Contains_int fu l x=some (l.any fun y=>decide (x=y)):=by
  unfold slices_Contains_int
  rw[IndexI_spec hl hf,ob_some,fstAt_any]
def prod:List Int→Int
  |[]=>1
  |x::l=>x*prod l
def Rng(l:List Int):Prop:= ∀ x ∈ l,0<=x/\x<=4096
def Good(l:List Int):Prop:=l.length<=8/\Rng l/\prod l<=4096
instance (l:List Int):Decidable (Rng l):=by unfold Rng;infer_instance
instance (l:List Int):Decidable (Good l):=by unfold Good;infer_instance
def errS(l:List Int):Int:=if l.any (λx=>decide (x<0))=true then 1 else 4
def sizeV(l:List Int):Int×Int:=if Good l then(prod l,0)else(0,errS l)
theorem errS_ne(l:List Int):errS l≠0:=by unfold errS;split <;> decide
theorem prod_nonneg: ∀ {l:List Int},Rng l→0≤prod l
  |[],_=>by decide
  |x::l,h=>Int.mul_nonneg (h x (by simp)).1 (prod_nonneg λy hy=>h y (by simp[hy]))
theorem prod_pos: ∀ {l:List Int},(∀ x ∈ l,1≤x)→1≤prod l
  |[],_=>by decide
  | x::l,h=>by
    have h1:=h x (by simp)
    have h2:=prod_pos (l:=l) λy hy=>h y (by simp[hy])
    have:=Int.mul_le_mul h1 h2 (by decide) (by omega)
    simpa[prod]using this
theorem prod_zero: ∀ {l:List Int},0 ∈ l→prod l=0
  | x::l,h=>by
    rcases List.mem_cons.1 h with rfl|h
    · simp[prod]
    · simp[prod,prod_zero h]
theorem div_lt_iff{m d:Int}(hm:1≤m)(hd:0≤d):(Int.tdiv 4096 m<d) ↔ 4096<m*d:=by
  rw[Int.tdiv_eq_ediv_of_nonneg (by decide)]
  constructor
  · intro h
    have:=Int.lt_mul_of_ediv_lt (by omega:0<m) h
    rwa[Int.mul_comm]at this
  · intro h
    exact Int.ediv_lt_of_lt_mul (by omega) (by rwa[Int.mul_comm])
theorem SizeW_spec{fu:Nat}{l:List Int}(hp: ∀ x ∈ l,1≤x∧x≤4096)(hl:l.length≤8)(hf:l.length<fu):shape_Size.W1 fu l 1 0=some (if prod l≤4096 then(prod l,0)else(0,4)):=by
  unfold shape_Size.W1
  refine(cloop_ind (λ(s:Int×Int)=>some (if s.1*prod (l.drop s.2.toNat)<=4096 then(s.1*prod (l.drop s.2.toNat),0)else(0,4))) (λs=>0<=s.2/\s.2<=l.length/\1<=s.1/\s.1<=4096) (λs=>l.length - s.2.toNat) ?_ fu (1,0) (by simp) (by simp;omega)).trans (by simp)
  rintro⟨m,i⟩ ⟨h0,h1,h2,h3⟩ next hn
  simp only at h0 h1 h2 h3 hn ⊢
  obtain⟨k,rfl⟩:=Int.eq_ofNat_of_zero_le h0
  unfold shape_Size.L1
  simp only[Int.toNat_natCast]
  by_cases hk:k<l.length
  · obtain⟨q1,q2⟩:=hp _ (List.getElem_mem hk)
    have t0:0≤Int.tdiv 4096 m∧Int.tdiv 4096 m≤4096:=by
      rw[Int.tdiv_eq_ediv_of_nonneg (by decide)]
      exact⟨Int.ediv_nonneg (by decide) (by omega),Int.ediv_le_self _ (by decide)⟩
    rw[if_pos (by omega),at?_get hk,ob_some,chk_pos (by omega),wk_eq (by omega) (by omega),List.drop_eq_getElem_cons hk]
    have hpos:1<=prod (l.drop (k+1)):=prod_pos λx hx=>(hp x (List.mem_of_mem_drop hx)).1
    have hge:1<=m*l[k]:=by have:=Int.mul_le_mul h2 q1 (by decide) (by omega);simpa using this
    simp only[prod,← Int.mul_assoc]
    by_cases hd:Int.tdiv 4096 m<l[k]
    · rw[if_pos hd]
      rw[div_lt_iff h2 (by omega)]at hd
      have:m*l[k]*1<=m*l[k]*prod (l.drop (k+1)):=Int.mul_le_mul_of_nonneg_left hpos (by omega)
      rw[if_neg (by omega)]
    · rw[if_neg hd]
      rw[div_lt_iff h2 (by omega)]at hd
      rw[wk_eq (by omega) (by omega),wk_succ (by omega),hn (m*l[k],((k+1:Nat):Int)) ⟨by simp only[];omega,by simp only[];omega,hge,by simp only[];omega⟩ (by simp;omega)]
      simp
  · rw[if_neg (by omega),List.drop_of_length_le (by omega)]
    simp only[prod,Int.mul_one]
    rw[if_pos h3]
theorem Size_spec{fu:Nat}{l:List Int}(hl:Short l)(hf:l.length<fu):shape_Size fu l=some (sizeV l):=by
  unfold shape_Size;try unfold jn
  rw[ContainsFunc_spec (p:=λy0=>shape_Size_1 fu y0) (q:=λx=>decide (x<0)) (λx=>rfl) hl hf,ob_some]
  by_cases h1:l.any (λx=>decide (x<0))=true
  · rw[if_pos h1]
    have hg: ¬ Good l:=fun hg=>by
      obtain⟨x,hx,hx2⟩:=List.any_eq_true.1 h1
      have:=(hg.2.1 x hx).1
      simp at hx2;omega
    simp only[sizeV,if_neg hg,errS,if_pos h1]
  rw[if_neg h1]
  have he:errS l=4:=by simp only[errS,if_neg h1]
  by_cases h2:8<(l.length:Int)
  · rw[if_pos h2]
    have hg: ¬ Good l:=λhg=>by have:=hg.1;omega
    simp only[sizeV,if_neg hg,he]
  rw[if_neg h2,ContainsFunc_spec (p:=λy0=>shape_Size_2 fu y0) (q:=λx=>decide (4096<x)) (λx=>rfl) hl hf,ob_some]
  by_cases h3:l.any (λx=>decide (4096<x))=true
  · rw[if_pos h3]
    have hg: ¬ Good l:=fun hg=>by
      obtain⟨x,hx,hx2⟩:=List.any_eq_true.1 h3
      have:=(hg.2.1 x hx).2
      simp at hx2;omega
    simp only[sizeV,if_neg hg,he]
  rw[if_neg h3]
  have hr:Rng l:=fun x hx=>by
    simp only[List.any_eq_true,decide_eq_true_eq,not_exists,not_and]at h1 h3
    have:=h1 x hx;have:=h3 x hx;omega
  unfold shape_Size.k1
  rw[Contains_spec hl hf,ob_some]
  by_cases h4:(l.any λy=>decide ((0:Int)=y))=true
  · rw[if_pos h4]
    have hz:(0:Int) ∈ l:=by
      obtain⟨x,hx,hx2⟩:=List.any_eq_true.1 h4
      simp at hx2;subst hx2;exact hx
    have hg:Good l:=⟨by omega,hr,by rw[prod_zero hz];decide⟩
    simp only[sizeV,if_pos hg,prod_zero hz]
  rw[if_neg h4]
  have hp: ∀ x ∈ l,1≤x∧x≤4096:=fun x hx=>by
    have:=hr x hx
    simp only[List.any_eq_true,decide_eq_true_eq,not_exists,not_and]at h4
    have:=h4 x hx;omega
  rw[SizeW_spec hp (by omega) hf]
  by_cases h5:prod l<=4096
  · have hg:Good l:=⟨by omega,hr,h5⟩
    simp only[sizeV,if_pos hg,if_pos h5]
  · have hg: ¬ Good l:=fun hg=>h5 hg.2.2
    simp only[sizeV,if_neg hg,if_neg h5,he]
end Go.Av
namespace Go.Av
def strdW:List Int→List Int
  |[]=>[]
  |_::l=>wk .i64 (prod l)::strdW l
theorem strdW_length: ∀ l,(strdW l).length=l.length
  |[]=>rfl
  |_::l=>by simp[strdW,strdW_length l]
theorem strdW_get: ∀ {l:List Int} {i:Nat} (h:i<l.length),(strdW l)[i]? =some (wk .i64 (prod (l.drop (i+1))))
  |_::l,0,_=>by simp[strdW]
  | _::l,i+1,h=>by
    have:=strdW_get (l:=l) (i:=i) (by simpa using h)
    simpa[strdW]using this
theorem rep_set(i:Nat)(x:Int)(s:List Int):(List.replicate (i+1) 0++s).set i x=List.replicate i 0++x::s:=by
  rw[List.replicate_succ',List.append_assoc,List.set_append_right _ _ (by simp)]
  simp
theorem strides_spec{fu:Nat}{l:List Int}(hl:l.length*8≤140737488355328)(hf:l.length<fu):shape_strides fu l=some (strdW l):=by
  unfold shape_strides shape_strides.W1
  rw[chk_pos (by omega)]
  have hw:wk .i64 ((l.length:Int) - 1)=((l.length:Int) - 1):=wk_eq (by omega) (by omega)
  rw[hw,Int.toNat_natCast]
  refine(cloop_ind (λ_=>some (strdW l)) (λ(s:List Int×Int×Int)=> ∃ k:Nat,k<=l.length/\s=(List.replicate k 0++strdW (l.drop k),wk .i64 (prod (l.drop k)),(k:Int) - 1)) (λs=>(s.2.2+1).toNat) ?_ fu _ ⟨l.length,Nat.le_refl _,by simp[strdW,prod];decide⟩ (by simp;omega))
  rintro _ ⟨k,hk,rfl⟩ next hn
  unfold shape_strides.L1
  simp only
  match k,hk with
  |0,_=>rw[if_neg (by decide)];simp
  | k+1,hk=>
    have e1:(((k+1:Nat):Int) - 1)=(k:Int):=by omega
    have hlen:(List.replicate (k+1) (0:Int)++strdW (l.drop (k+1))).length=l.length:=by simp[strdW_length];omega
    rw[e1,if_pos (by omega),hlen,chk_pos (by omega),at?_get (by omega),ob_some,Int.toNat_natCast,rep_set,wk_mul_l,wk_eq (x:=(k:Int) - 1) (by omega) (by omega)]
    refine hn _ ⟨k,by omega,?_⟩ (by simp)
    rw[List.drop_eq_getElem_cons (by omega:k<l.length)]
    simp only[strdW,prod]
    rw[Int.mul_comm]
theorem prod_drop_le{l:List Int}(hp: ∀ x ∈ l,1≤x): ∀ k,1≤prod (l.drop k)∧prod (l.drop k)≤prod l:=by
  induction l with
  |nil=>intro k;simp[prod]
  | cons x l ih=>
    intro k
    have hx:=hp x (by simp)
    have ih':=ih λy hy=>hp y (by simp[hy])
    cases k with
    |zero=>exact⟨by simpa using prod_pos hp,by simp⟩
    | succ k=>
      obtain⟨h1,h2⟩:=ih' k
      have h3:=prod_pos (l:=l) λy hy=>hp y (by simp[hy])
      refine⟨by simpa using h1,?_⟩
      simp only[List.drop_succ_cons,prod]
      have:1*prod l<=x*prod l:=Int.mul_le_mul_of_nonneg_right hx (by omega)
      omega
theorem pos_of_good{l:List Int}(hg:Good l)(h0:prod l≠0): ∀ x ∈ l,1≤x:=fun x hx=>by
  have:=(hg.2.1 x hx).1
  by_cases h:x=0
  · subst h;exact absurd (prod_zero hx) h0
  · omega
theorem good_short{l:List Int}(hg:Good l):l.length*8<=140737488355328:=by have:=hg.1;omega
def idxV:List Int→Int→List Int
  |[],_=>[]
  |_::l,a=>a / prod l::idxV l (a%prod l)
theorem idxV_length: ∀ l a,(idxV l a).length=l.length
  |[],_=>rfl
  |_::l,a=>by simp[idxV,idxV_length l]
def okIx:List Int→List Int→Bool
  |d::l,x::xs=>decide (0<=x)&&decide (x<d)&&okIx l xs
  |_,_=>true
def offV:List Int→List Int→Int
  |_::l,x::xs=>x*prod l+offV l xs
  |_,_=>0
theorem okIx_idx: ∀ {l:List Int} {a:Int},(∀ x ∈ l,1≤x)→0≤a→a<prod l→okIx l (idxV l a)=true
  |[],_,_,_,_=>rfl
  | d::l,a,hp,h0,h1=>by
    have hq:1<=prod l:=prod_pos λx hx=>hp x (by simp[hx])
    have h2:0<=a / prod l:=Int.ediv_nonneg h0 (by omega)
    have h3:a / prod l<d:=Int.ediv_lt_of_lt_mul (by omega) h1
    have h4:=okIx_idx (l:=l) (a:=a%prod l) (λx hx=>hp x (by simp[hx])) (Int.emod_nonneg _ (by omega)) (Int.emod_lt_of_pos _ (by omega))
    simp[idxV,okIx,h2,h3,h4]
theorem offV_idx: ∀ {l:List Int} {a:Int},(∀ x ∈ l,1≤x)→0≤a→a<prod l→offV l (idxV l a)=a
  |[],a,_,h0,h1=>by simp[prod]at h1;simp[offV];omega
  | d::l,a,hp,h0,h1=>by
    have hq:1<=prod l:=prod_pos λx hx=>hp x (by simp[hx])
    have h4:=offV_idx (l:=l) (a:=a%prod l) (λx hx=>hp x (by simp[hx])) (Int.emod_nonneg _ (by omega)) (Int.emod_lt_of_pos _ (by omega))
    simp only[idxV,offV,h4]
    rw[Int.mul_comm]
    exact Int.mul_ediv_add_emod a (prod l)
end Go.Av
namespace Go.Av
theorem Clone_spec{fu:Nat}{l:List Int}(h:l.length*8≤140737488355328):slices_Clone_int fu l=some l:=by
  unfold slices_Clone_int
  rw[chk_pos (by omega)]
end Go.Av
namespace Go.Av
theorem drop_same{a b:List Int}{i:Nat}(ha:i<a.length)(hb:i<b.length):a.drop i=b.drop i ↔ a[i]=b[i]∧a.drop (i+1)=b.drop (i+1):=by
  rw[List.drop_eq_getElem_cons ha,List.drop_eq_getElem_cons hb]
  exact List.cons_eq_cons
theorem SameInts_spec{fu:Nat}{a b:List Int}(hl:Short a)(hf:a.length<fu):ref04_SameInts fu a b=some (decide (a=b)):=by
  unfold ref04_SameInts ref04_SameInts.W1
  by_cases hlen:a.length=b.length
  · rw [if_pos (by omega)]
    refine(cloop_ind (λ(i:Int)=>some (decide (a.drop i.toNat=b.drop i.toNat))) (λi=>0<=i/\i<=a.length) (λi=>a.length - i.toNat) ?_ fu 0 (by simp) (by simp;omega)).trans (by simp)
    rintro i ⟨h0,h1⟩ next hn
    obtain⟨k,rfl⟩:=Int.eq_ofNat_of_zero_le h0
    unfold ref04_SameInts.L1
    simp only[Int.toNat_natCast]
    by_cases hk:k<a.length
    · rw[if_pos (by omega),at?_get hk,ob_some,at?_get (by omega:k<b.length),ob_some,wk_succ (by unfold Short at hl;omega)]
      have hd:=drop_same hk (by omega:k<b.length)
      by_cases he:a[k]=b[k]
      · rw[if_pos he,hn _ (by omega) (by simp;omega)]
        simp[hd,he]
      · rw[if_neg he]
        simp[hd,he]
    · rw[if_neg (by omega)]
      have e1:a.drop k=b.drop k:=by rw[List.drop_of_length_le (by omega),List.drop_of_length_le (by omega)]
      simp[e1]
  · rw[if_neg (by omega)]
    have: ¬ a=b:=λh=>hlen (by rw[h])
    simp[this]
end Go.Av
namespace Go.Av
theorem Equal_spec{fu:Nat}{a b:List Int}(hl:Short a)(hf:a.length<fu):slices_Equal_int fu a b=some (decide (a=b)):=by
  unfold slices_Equal_int slices_Equal_int.W1
  by_cases hlen:a.length=b.length
  · rw [if_pos (by omega)]
    refine(cloop_ind (λ(i:Int)=>some (decide (a.drop i.toNat=b.drop i.toNat))) (λi=>0<=i/\i<=a.length) (λi=>a.length - i.toNat) ?_ fu 0 (by simp) (by simp;omega)).trans (by simp)
    rintro i ⟨h0,h1⟩ next hn
    obtain⟨k,rfl⟩:=Int.eq_ofNat_of_zero_le h0
    unfold slices_Equal_int.L1
    simp only[Int.toNat_natCast]
    by_cases hk:k<a.length
    · rw[if_pos (by omega),at?_get hk,ob_some,at?_get (by omega:k<b.length),ob_some,wk_succ (by unfold Short at hl;omega)]
      have hd:=drop_same hk (by omega:k<b.length)
      by_cases he:a[k]=b[k]
      · rw[if_pos he,hn _ (by omega) (by simp;omega)]
        simp[hd,he]
      · rw[if_neg he]
        simp[hd,he]
    · rw[if_neg (by omega)]
      have e1:a.drop k=b.drop k:=by rw[List.drop_of_length_le (by omega),List.drop_of_length_le (by omega)]
      simp[e1]
  · rw[if_neg (by omega)]
    have: ¬ a=b:=λh=>hlen (by rw[h])
    simp[this]
def zipB:List Int→List Int→Option (List Int)
  |x::a,d::b=>if x=1 then(zipB a b).map (d:: ·)else if d=1∨d=x then(zipB a b).map (x:: ·)else none
  |_,_=>some []
def bc'(a b:List Int):Option (List Int):=(zipB (a.drop (a.length - b.length)) b).map (a.take (a.length - b.length)++ ·)
def bc(a b:List Int):Option (List Int):=if a.length<b.length then bc' b a else bc' a b
def broadcastV(a b:List Int):List Int×Int:=
  if Good a then(if Good b then(match bc a b with
    |some l=>if Good l then(l,0)else([],errS l)
    |none=>([],3))else([],errS b))else([],errS a)
theorem zipB_length: ∀ {a b r:List Int},a.length=b.length→zipB a b=some r→r.length=b.length
  |[],[],r,_,h=>by simp[zipB]at h;subst h;rfl
  | x ::a,d::b,r,hl,h=>by
    simp only[zipB]at h
    have hl':a.length=b.length:=by simpa using hl
    split at h
    · simp only[Option.map_eq_some_iff]at h
      obtain⟨q,hq,rfl⟩:=h
      simp[zipB_length hl' hq]
    · split at h
      · simp only[Option.map_eq_some_iff]at h
        obtain⟨q,hq,rfl⟩:=h
        simp[zipB_length hl' hq]
      · cases h
theorem bc'_length{a b r:List Int}(hl:b.length≤a.length)(h:bc' a b=some r):r.length=a.length:=by
  unfold bc' at h
  simp only[Option.map_eq_some_iff]at h
  obtain⟨q,hq,rfl⟩:=h
  have:=zipB_length (by simp;omega) hq
  simp;omega
theorem k3_spec{fu:Nat}{l:List Int}(hl:Short l)(hf:l.length<fu):shape_Broadcast.k3 fu l=some (if Good l then(l,0)else([],errS l)):=by
  unfold shape_Broadcast.k3
  rw[Size_spec hl hf,ob_some]
  simp only[sizeV]
  by_cases hg:Good l
  · simp only[if_pos hg,if_true]
  · simp only[if_neg hg]
    rw[if_neg (errS_ne l)]
theorem BW_spec{fu:Nat}{a b:List Int}(ha:a.length≤8)(hl:b.length≤a.length)(hf:9<fu):shape_Broadcast.W1 fu a b a 0=some (match bc' a b with
    |some l=>if Good l then(l,0)else([],errS l)
    |none=>([],3)):=by
  unfold shape_Broadcast.W1
  have key: ∀ l:List Int,l.length=a.length->shape_Broadcast.k3 fu l=some (if Good l then(l,0)else([],errS l)):=λl h=>k3_spec (by unfold Short;omega) (by omega)
  have hah:wk .i64 ((a.length:Int) - (b.length:Int))=((a.length - b.length:Nat):Int):=by rw[wk_eq (by omega) (by omega)];omega
  generalize hA:a.length - b.length=A at hah
  refine(cloop_ind (fun(s:List Int×Int)=>some (match (zipB (s.1.drop (A+s.2.toNat)) (b.drop s.2.toNat)).map (s.1.take (A+s.2.toNat)++ ·)with
    |some l=>if Good l then(l,0)else([],errS l)
    |none=>([],3))) (λs=>0<=s.2/\s.2<=b.length/\s.1.length=a.length) (λs=>b.length - s.2.toNat) ?_ fu (a,0) ⟨by simp,by simp,rfl⟩ (by simp;omega)).trans (by simp[bc',hA])
  rintro⟨o,i⟩ ⟨h0,h1,h2⟩ next hn
  simp only at h0 h1 h2 hn ⊢
  obtain⟨k,rfl⟩:=Int.eq_ofNat_of_zero_le h0
  unfold shape_Broadcast.L1
  simp only[Int.toNat_natCast,hah]
  have hidx:wk .i64 ((A:Int)+(k:Int))=((A+k:Nat):Int):=by rw[wk_eq (by omega) (by omega)];omega
  by_cases hk:k<b.length
  · have hko:A+k<o.length:=by omega
    rw[if_pos (by omega),at?_get hk,ob_some,hidx,at?_get hko,ob_some,wk_succ (by omega),Int.toNat_natCast]
    rw[List.drop_eq_getElem_cons hko,List.drop_eq_getElem_cons hk]
    simp only[zipB]
    have hnext: ∀ o':List Int,o'.length=a.length->next (o',((k+1:Nat):Int))=_:=λo' ho'=>hn (o',((k+1:Nat):Int)) ⟨by simp only[];omega,by simp only[];omega,ho'⟩ (by simp;omega)
    simp only[Int.toNat_natCast]at hnext
    by_cases h3:o[A+k]=1
    · rw[if_pos h3,if_pos h3,chk_pos (by omega),hnext _ (by simp[h2])]
      have e1:(o.set (A+k) b[k]).drop (A+(k+1))=o.drop (A+k+1):=by
        rw[List.drop_set_of_lt (by omega)];rfl
      have e2:(o.set (A+k) b[k]).take (A+(k+1))=o.take (A+k)++[b[k]]:=by
        rw[← Nat.add_assoc,List.take_succ_eq_append_getElem (by simp;omega),List.take_set,List.set_eq_of_length_le (by simp;omega)]
        simp
      rw[e1,e2]
      cases zipB (o.drop (A+k+1)) (b.drop (k+1)) <;> simp
    · rw [if_neg h3,if_neg h3]
      have e2:o.take (A+(k+1))=o.take (A+k)++[o[A+k]]:=by
        rw[← Nat.add_assoc,List.take_succ_eq_append_getElem hko]
      by_cases h4:b[k]=1
      · rw[if_pos h4,if_pos (.inl h4),hnext _ h2,e2]
        cases zipB (o.drop (A+k+1)) (b.drop (k+1))with
        |none=>rfl
        |some r=>simp only[Option.map_some,List.append_assoc,List.cons_append,List.nil_append]
      · rw[if_neg h4]
        by_cases h5:b[k]=o[A+k]
        · rw[if_pos h5,if_pos (.inr h5),hnext _ h2,e2]
          cases zipB (o.drop (A+k+1)) (b.drop (k+1))with
          |none=>rfl
          |some r=>simp only[Option.map_some,List.append_assoc,List.cons_append,List.nil_append]
        · rw[if_neg h5,if_neg (fun h=>h.elim h4 h5)]
          rfl
  · rw[if_neg (by omega),key o h2,List.drop_of_length_le (by omega),List.drop_of_length_le (by omega),List.take_of_length_le (by omega)]
    simp[zipB]
theorem Broadcast_spec{fu:Nat}{a b:List Int}(ha:Short a)(hb:Short b)(hfa:a.length<fu)(hfb:b.length<fu)(hf:9<fu):shape_Broadcast fu a b=some (broadcastV a b):=by
  unfold shape_Broadcast shape_Broadcast.W2;(try unfold jn)
  have hk1:Good a→Good b→ ∀ z,shape_Broadcast.k1 fu a b z=some (broadcastV a b):=by
    intro ga gb z
    unfold shape_Broadcast.k1 shape_Broadcast.k2;(try unfold jn)
    simp only[broadcastV,if_pos ga,if_pos gb,bc]
    by_cases hlt:a.length<b.length
    · rw[if_pos (by omega),if_pos hlt,Clone_spec (good_short gb),ob_some,BW_spec gb.1 (by omega) hf]
    · rw[if_neg (by omega),if_neg hlt,Clone_spec (good_short ga),ob_some,BW_spec ga.1 (by omega) hf]
  obtain⟨f,rfl⟩: ∃ f,fu=f+3:=⟨fu - 3,by omega⟩
  have h0:at? [a,b] (0:Int)=some a:=rfl
  have h1:at? [a,b] (1:Int)=some b:=rfl
  have w0:wk .i64 ((0:Int)+1)=1:=by decide
  have w1:wk .i64 ((1:Int)+1)=2:=by decide
  unfold cloop shape_Broadcast.L2
  simp only
  rw[if_pos (by decide),h0,ob_some,Size_spec ha hfa,ob_some]
  simp only[sizeV]
  by_cases ga:Good a
  · simp only[if_pos ga,if_true,w0]
    unfold cloop
    simp only
    rw[if_pos (by decide),h1,ob_some,Size_spec hb hfb,ob_some]
    simp only[sizeV]
    by_cases gb:Good b
    · simp only[if_pos gb,if_true,w1]
      unfold cloop
      simp only
      rw[if_neg (by decide),hk1 ga gb]
    · simp only[if_neg gb]
      rw[if_neg (errS_ne b)]
      simp[broadcastV,ga,gb]
  · simp only[if_neg ga]
    rw[if_neg (errS_ne a)]
    simp[broadcastV,ga]
end Go.Av
namespace Go.Av
theorem IndexW_spec{fu:Nat}{l:List Int}{a:Int}(hg:Good l)(hn0:1≤prod l)(ha:0≤a)(ha2:a≤4096)(hf:l.length<fu):shape_Index.W1 fu (strdW l) (List.replicate l.length 0) a 0=some (idxV l a,0):=by
  have hp:=pos_of_good hg (by omega)
  have hd:=prod_drop_le hp
  have hP:=hg.2.2
  have hL:=hg.1
  unfold shape_Index.W1
  refine(cloop_ind (λs=>some (s.1.take s.2.2.toNat++idxV (l.drop s.2.2.toNat) s.2.1,(0:Int))) (λ(s:List Int×Int×Int)=>0<=s.2.2/\s.2.2<=l.length/\s.1.length=l.length/\0<=s.2.1/\s.2.1<=4096) (λs=>l.length - s.2.2.toNat) ?_ fu _ ⟨by simp,by simp,by simp,ha,ha2⟩ (by simp;omega)).trans (by simp)
  rintro⟨o,b,i⟩ ⟨h0,h1,h2,h3,h4⟩ next hn
  simp only at h0 h1 h2 h3 h4 hn ⊢
  obtain⟨k,rfl⟩:=Int.eq_ofNat_of_zero_le h0
  unfold shape_Index.L1
  simp only[Int.toNat_natCast,strdW_length]
  by_cases hk:k<l.length
  · obtain⟨d1,d2⟩:=hd (k+1)
    have hw:wk .i64 (prod (l.drop (k+1)))=prod (l.drop (k+1)):=wk_eq (by omega) (by omega)
    rw[if_pos (by omega),at?_nat,strdW_get hk,ob_some,hw]
    have q1:Int.tdiv b (prod (l.drop (k+1)))=b / prod (l.drop (k+1)):=Int.tdiv_eq_ediv_of_nonneg h3
    have q2:Int.tmod b (prod (l.drop (k+1)))=b%prod (l.drop (k+1)):=Int.tmod_eq_emod_of_nonneg h3
    have q3:0<=b / prod (l.drop (k+1)):=Int.ediv_nonneg h3 (by omega)
    have q4:b / prod (l.drop (k+1))<=b:=Int.ediv_le_self _ h3
    have q5:0<=b%prod (l.drop (k+1)):=Int.emod_nonneg _ (by omega)
    have q6:b%prod (l.drop (k+1))<prod (l.drop (k+1)):=Int.emod_lt_of_pos _ (by omega)
    rw[chk_pos (by omega),chk_pos (by omega),q1,q2,wk_eq (by omega) (by omega),wk_succ (by omega)]
    rw[hn (_,_,((k+1:Nat):Int)) ⟨by simp only[];omega,by simp only[];omega,by simp[h2],q5,by simp only[];omega⟩ (by simp;omega)]
    simp only[Int.toNat_natCast,Option.some.injEq,Prod.mk.injEq,and_true]
    rw[List.drop_eq_getElem_cons hk]
    simp only[idxV]
    rw[List.take_succ_eq_append_getElem (by simp;omega),List.append_assoc,List.take_set,List.set_eq_of_length_le (by simp;omega)]
    simp
  · rw[if_neg (by omega),List.drop_of_length_le (by omega),List.take_of_length_le (by omega)]
    simp[idxV]
def indexV(l:List Int)(a:Int):List Int×Int:=if Good l then(if 0<=a/\a<prod l then(idxV l a,0)else([],2))else([],errS l)
theorem Index_spec{fu:Nat}{l:List Int}{a:Int}(hl:Short l)(hf:l.length<fu):shape_Index fu l a=some (indexV l a):=by
  unfold shape_Index;try unfold jn
  rw[Size_spec hl hf,ob_some]
  simp only[sizeV,indexV]
  by_cases hg:Good l
  · simp only[if_pos hg,if_true]
    by_cases h1:a<0
    · rw[if_pos h1,if_neg (by omega)]
    · rw[if_neg h1]
      by_cases h2:prod l<=a
      · rw[if_pos h2,if_neg (by omega)]
      · rw[if_neg h2,if_pos (by omega)]
        unfold shape_Index.k1
        have:=hg.1
        have:=hg.2.2
        rw[chk_pos (by omega),strides_spec (good_short hg) hf,ob_some,Int.toNat_natCast,IndexW_spec hg (by omega) (by omega) (by omega) hf]
  · simp only[if_neg hg]
    rw[if_neg (errS_ne l)]
end Go.Av
namespace Go.Av
theorem zipB_comm: ∀ {a b:List Int},a.length=b.length→zipB a b=zipB b a
  |[],[],_=>rfl
  | x ::a,d::b,h=>by
    have ih:=zipB_comm (a:=a) (b:=b) (by simpa using h)
    simp only[zipB,ih]
    by_cases h1:x=1 <;> by_cases h2:d=1
    · subst h1 h2;rfl
    · subst h1;simp[h2]
    · subst h2;simp[h1]
    · by_cases h3:d=x
      · subst h3;simp[h1]
      · have h4: ¬ x=d:=fun h=>h3 h.symm
        simp[h1,h2,h3,h4]
theorem bc_comm{a b:List Int}:bc a b=bc b a:=by
  unfold bc
  by_cases h1:a.length<b.length
  · rw[if_pos h1,if_neg (by omega)]
  · rw[if_neg h1]
    by_cases h2:b.length<a.length
    · rw[if_pos h2]
    · rw[if_neg h2]
      have hl:a.length=b.length:=by omega
      unfold bc'
      rw[hl]
      simp[zipB_comm hl]
theorem zipB_self: ∀ {r:List Int},zipB r r=some r
  |[]=>rfl
  | x::r=>by
    simp only[zipB,zipB_self (r:=r)]
    by_cases h:x=1
    · simp[h]
    · simp[h]
theorem zipB_right: ∀ {a b r:List Int},a.length=b.length→zipB a b=some r→zipB r b=some r
  |[],[],r,_,h=>by simp[zipB]at h;subst h;rfl
  | x ::a,d::b,r,hl,h=>by
    simp only[zipB]at h
    have hl':a.length=b.length:=by simpa using hl
    split at h
    · simp only[Option.map_eq_some_iff]at h
      obtain⟨q,hq,rfl⟩:=h
      have ih:=zipB_right hl' hq
      simp only[zipB,ih]
      by_cases h1:d=1 <;> simp[h1]
    · split at h
      · rename_i hx hd
        simp only[Option.map_eq_some_iff]at h
        obtain⟨q,hq,rfl⟩:=h
        have ih:=zipB_right hl' hq
        simp only[zipB,ih,if_neg hx,if_pos hd]
        rfl
      · cases h
theorem bc'_right{a b r:List Int}(hl:b.length≤a.length)(h:bc' a b=some r):bc' r b=some r:=by
  have hrl:=bc'_length hl h
  unfold bc' at h ⊢
  simp only[Option.map_eq_some_iff]at h
  obtain⟨q,hq,rfl⟩:=h
  have hda:(a.drop (a.length - b.length)).length=b.length:=by simp;omega
  have hz:=zipB_right hda hq
  rw[hrl]
  have hpl:(a.take (a.length - b.length)).length=a.length - b.length:=by simp
  have e1:(a.take (a.length - b.length)++q).drop (a.length - b.length)=q:=by
    rw[List.drop_append_of_le_length (by omega),List.drop_of_length_le (by omega)];rfl
  have e2:(a.take (a.length - b.length)++q).take (a.length - b.length)=a.take (a.length - b.length):=by
    rw[List.take_append_of_le_length (by omega),List.take_of_length_le (by omega)]
  rw[e1,e2,hz];rfl
theorem bc'_left{a b r:List Int}(hl:b.length≤a.length)(h:bc' a b=some r):bc' r a=some r:=by
  have hrl:=bc'_length hl h
  unfold bc' at h ⊢
  simp only[Option.map_eq_some_iff]at h
  obtain⟨q,hq,rfl⟩:=h
  have hda:(a.drop (a.length - b.length)).length=b.length:=by simp;omega
  rw[zipB_comm hda]at hq
  have hz:=zipB_right hda.symm hq
  rw[hrl,Nat.sub_self,List.drop_zero,List.take_zero]
  have key: ∀ (p q s:List Int),zipB q s=some q→zipB (p++q) (p++s)=some (p++q):=by
    intro p
    induction p with
    |nil=>intro q s h;exact h
    | cons x p ih=>
      intro q s h
      simp only[List.cons_append,zipB,ih q s h]
      by_cases h1:x=1 <;> simp[h1]
  have:=key (a.take (a.length - b.length)) q (a.drop (a.length - b.length)) hz
  rw[List.take_append_drop]at this
  rw[this];rfl
theorem bc_left{a b r:List Int}(h:bc a b=some r):bc r a=some r∧bc b r=some r∧bc r r=some r∧a.length≤r.length∧b.length≤r.length∧r.length=max a.length b.length:=by
  have hrr:bc r r=some r:=by simp[bc,bc',zipB_self]
  unfold bc at h
  by_cases hlt:a.length<b.length
  · rw[if_pos hlt]at h
    have hrl:=bc'_length (by omega) h
    have h1:=bc'_right (by omega) h
    have h2:=bc'_left (by omega) h
    refine⟨by unfold bc;rw[if_neg (by omega)];exact h1,?_,hrr,by omega,by omega,by omega⟩
    rw[bc_comm]
    unfold bc;rw[if_neg (by omega)];exact h2
  · rw[if_neg hlt]at h
    have hrl:=bc'_length (by omega) h
    have h1:=bc'_right (by omega) h
    have h2:=bc'_left (by omega) h
    refine⟨by unfold bc;rw[if_neg (by omega)];exact h2,?_,hrr,by omega,by omega,by omega⟩
    rw[bc_comm]
    unfold bc;rw[if_neg (by omega)];exact h1
def fromS:List Int→List Int→Int
  |d::l,x::xs=>(if d=1 then 0 else x*prod l)+fromS l xs
  |_,_=>0
def fromV(s l:List Int)(a:Int):Int×Int:=
  if Good s then(if Good l then(if broadcastV s l=(l,0)then(if 0<=a/\a<prod l then(fromS s ((idxV l a).drop (l.length - s.length)),0)else(0,2))else(0,3))else(0,errS l))else(0,errS s)
def dimsFit:List Int→List Int→Prop
  |d::s,x::l=>(d=1∨d=x)/\dimsFit s l
  |_,_=>True
theorem zipB_fit: ∀ {a b:List Int},a.length=b.length→zipB a b=some a→dimsFit b a
  |[],[],_,_=>trivial
  | x ::a,d::b,hl,h=>by
    simp only[zipB]at h
    have hl':a.length=b.length:=by simpa using hl
    split at h
    · rename_i hx
      simp only[Option.map_eq_some_iff]at h
      obtain⟨q,hq,he⟩:=h
      injection he with h1 h2
      subst h2
      exact⟨.inr h1,zipB_fit hl' hq⟩
    · split at h
      · rename_i hx hd
        simp only[Option.map_eq_some_iff]at h
        obtain⟨q,hq,he⟩:=h
        injection he with h1 h2
        subst h2
        exact⟨hd,zipB_fit hl' hq⟩
      · cases h
theorem bcast_fit{s l:List Int}(hs:Good s)(hlg:Good l)(h:broadcastV s l=(l,0)):s.length≤l.length∧bc s l=some l∧dimsFit s (l.drop (l.length - s.length)):=by
  simp only[broadcastV,if_pos hs,if_pos hlg]at h
  cases hb:bc s l with
  |none=>rw[hb]at h;simp at h
  | some r=>
    rw[hb]at h
    simp only at h
    have hr:r=l:=by
      split at h
      · exact(Prod.mk.inj h).1
      · exact absurd (Prod.mk.inj h).2 (errS_ne r)
    subst hr
    obtain⟨h1,_,_,h4,_,_⟩:=bc_left hb
    refine⟨h4,rfl,?_⟩
    unfold bc at h1
    rw[if_neg (by omega)]at h1
    unfold bc' at h1
    simp only[Option.map_eq_some_iff]at h1
    obtain⟨q,hq,he⟩:=h1
    have:q=r.drop (r.length - s.length):=by
      have:=congrArg (List.drop (r.length - s.length)) he
      rwa[List.drop_append_of_le_length (by simp),List.drop_of_length_le (by simp),List.nil_append]at this
    rw[this]at hq
    exact zipB_fit (by simp;omega) hq
theorem okIx_drop: ∀ (k:Nat) {l xs:List Int},okIx l xs=true→okIx (l.drop k) (xs.drop k)=true
  |0,_,_,h=>by simpa using h
  |k+1,[],xs,h=>by simp[okIx]
  |k+1,_::_,[],h=>by cases h':(List.drop (k+1) _:List Int) <;> simp[okIx]
  | k+1,d::l,x::xs,h=>by
    simp only[okIx,Bool.and_eq_true]at h
    simpa using okIx_drop k h.2
theorem fit_drop: ∀ {s l:List Int} (hl:s.length=l.length),dimsFit s l→ ∀ (k:Nat) (h:k<s.length),(s[k]=1∨s[k]=l[k]'(hl ▸ h))
  |d::s,x::l,hl,hf,0,_=>hf.1
  | d::s,x::l,hl,hf,k+1,h=>by
    have:=fit_drop (s:=s) (l:=l) (by simpa using hl) hf.2 k (by simpa using h)
    simpa using this
theorem okIx_get: ∀ {l xs:List Int} (hl:l.length=xs.length),okIx l xs=true→ ∀ (k:Nat) (h:k<l.length),0≤xs[k]'(hl ▸ h)∧xs[k]'(hl ▸ h)<l[k]
  | d::l,x::xs,hl,ho,0,_=>by
    simp only[okIx,Bool.and_eq_true,decide_eq_true_eq]at ho
    exact ho.1
  | d::l,x::xs,hl,ho,k+1,h=>by
    simp only[okIx,Bool.and_eq_true]at ho
    have:=okIx_get (l:=l) (xs:=xs) (by simpa using hl) ho.2 k (by simpa using h)
    simpa using this
theorem FromW_spec{fu:Nat}{s l:List Int}{a:Int}(hs:Good s)(hlg:Good l)(hls:s.length≤l.length)(hfit:dimsFit s (l.drop (l.length - s.length)))(h0:0≤a)(h1:a<prod l)(hf:9<fu)(e:Int):
    shape_From.W1 fu s l (idxV l a,e) (strdW s) 0 0=some (fromS s ((idxV l a).drop (l.length - s.length)),0):=by
  have hL:=hlg.1
  have hS:=hs.1
  have hP:=hs.2.2
  have hn:prod l≠0:=by omega
  have hok:=okIx_drop (l.length - s.length) (okIx_idx (pos_of_good hlg hn) h0 h1)
  have hil:=idxV_length l a
  have hw:wk .i64 ((l.length:Int) - (s.length:Int))=((l.length - s.length:Nat):Int):=by rw[wk_eq (by omega) (by omega)];omega
  unfold shape_From.W1
  generalize hA:l.length - s.length=A at hw hok hfit ⊢
  generalize hx:(idxV l a).drop A=xs at hok ⊢
  have hxl:xs.length=s.length:=by rw[← hx];simp[hil];omega
  have hdl:(l.drop A).length=s.length:=by simp;omega
  have hsub:subN (idxV l a) (A:Int).toNat (idxV l a).length=xs:=by
    simp only[subN,Int.toNat_natCast,hx,hil]
    rw[List.take_of_length_le (by omega)]
  refine(cloop_ind (λ(t:Int×Int)=>some (t.1+fromS (s.drop t.2.toNat) (xs.drop t.2.toNat),(0:Int))) (λt=>0<=t.2/\t.2<=s.length/\0<=t.1/\t.1+prod (s.drop t.2.toNat)<=4096) (λt=>s.length - t.2.toNat) ?_ fu (0,0) ⟨by simp,by simp,by simp,by simpa using hP⟩ (by simp;omega)).trans (by simp)
  rintro⟨o,i⟩ ⟨q0,q1,q2,q3⟩ next hnx
  simp only at q0 q1 q2 q3 hnx ⊢
  obtain⟨k,rfl⟩:=Int.eq_ofNat_of_zero_le q0
  unfold shape_From.L1
  simp only[Int.toNat_natCast,strdW_length,hw]at q3 ⊢
  by_cases hk:k<s.length
  · have hkx:k<xs.length:=by omega
    have hsub2:subN (idxV l a) A (idxV l a).length=xs:=by simpa using hsub
    rw[if_pos (by omega),at?_nat,strdW_get hk,ob_some,at?_get hk,ob_some]
    rw[List.drop_eq_getElem_cons hk]at q3
    simp only[prod]at q3
    rw[List.drop_eq_getElem_cons hk,List.drop_eq_getElem_cons hkx]
    simp only[fromS]
    have hpn:0<=prod (s.drop (k+1)):=prod_nonneg λx hx=>hs.2.1 x (List.mem_of_mem_drop hx)
    by_cases hd:s[k]=1
    · rw[if_pos hd,if_pos hd,wk_succ (by omega)]
      rw[hd,Int.one_mul]at q3
      rw[hnx (o,((k+1:Nat):Int)) ⟨by simp only[];omega,by simp only[];omega,q2,by simpa using q3⟩ (by simp;omega)]
      simp
    · rw[if_neg hd,if_neg hd,hsub2,at?_get hkx,ob_some]
      have hfk:=(fit_drop hdl.symm hfit k hk).resolve_left hd
      obtain⟨r1,r2⟩:=okIx_get (by omega) hok k (by omega)
      rw[← hfk]at r2
      have m1:(xs[k]+1)*prod (s.drop (k+1))<=s[k]*prod (s.drop (k+1)):=Int.mul_le_mul_of_nonneg_right (by omega) hpn
      rw[Int.add_mul,Int.one_mul]at m1
      have m2:0<=xs[k]*prod (s.drop (k+1)):=Int.mul_nonneg r1 hpn
      rw[wk_eq (x:=prod (s.drop (k+1))) (by omega) (by omega),wk_eq (x:=xs[k]*prod (s.drop (k+1))) (by omega) (by omega),wk_eq (by omega) (by omega),wk_succ (by omega)]
      rw[hnx (_,((k+1:Nat):Int)) ⟨by simp only[];omega,by simp only[];omega,by simp only[];omega,by simp only[Int.toNat_natCast];omega⟩ (by simp;omega)]
      simp only[Int.toNat_natCast,Int.add_assoc]
  · rw[if_neg (by omega),List.drop_of_length_le (by omega),List.drop_of_length_le (by omega)]
    simp[fromS]
theorem From_spec{fu:Nat}{s l:List Int}{a:Int}(hs:Short s)(hl:Short l)(hfs:s.length<fu)(hfl:l.length<fu)(hf:9<fu):shape_From fu s l a=some (fromV s l a):=by
  unfold shape_From shape_From.k1;(try unfold jn)
  rw[Size_spec hs hfs,ob_some,Size_spec hl hfl,ob_some,Broadcast_spec hs hl hfs hfl hf,ob_some]
  simp only[sizeV,fromV]
  by_cases gs:Good s
  · simp only[if_pos gs,if_true]
    by_cases gl:Good l
    · simp only[if_pos gl,if_true]
      by_cases he:(broadcastV s l).2=0
      · rw [if_pos he]
        have hsh:Short (broadcastV s l).1:=by
          simp only[broadcastV,if_pos gs,if_pos gl]
          have:=gs.1;have:=gl.1
          cases hb:bc s l with
          |none=>simp[Short]
          | some r=>
            obtain⟨_,_,_,_,_,h6⟩:=bc_left hb
            simp only
            split <;> simp[Short];omega
        have hfl2:(broadcastV s l).1.length<fu:=by
          simp only[broadcastV,if_pos gs,if_pos gl]
          have:=gs.1;have:=gl.1
          cases hb:bc s l with
          |none=>simp;omega
          | some r=>
            obtain⟨_,_,_,_,_,h6⟩:=bc_left hb
            simp only
            split <;> simp <;> omega
        rw[Equal_spec hsh hfl2,ob_some]
        by_cases heq:(broadcastV s l).1=l
        · have hbv:broadcastV s l=(l,0):=Prod.ext heq he
          rw[if_pos (by simpa using heq),if_pos hbv,Index_spec hl hfl,ob_some]
          simp only[indexV,if_pos gl]
          by_cases hr:0<=a/\a<prod l
          · simp only[if_pos hr,if_true]
            obtain⟨f1,_,f3⟩:=bcast_fit gs gl hbv
            have:=gl.1
            have hw:wk .i64 ((l.length:Int) - (s.length:Int))=((l.length - s.length:Nat):Int):=by rw[wk_eq (by omega) (by omega)];omega
            rw[hw,chk_pos (by rw[idxV_length];omega),strides_spec (good_short gs) hfs,ob_some,FromW_spec gs gl f1 f3 hr.1 hr.2 hf]
          · simp only[if_neg hr]
            rfl
        · rw[if_neg (by simpa using heq),if_neg (λh=>heq (by rw[h]))]
      · rw[if_neg he,if_neg (λh=>he (by rw[h]))]
    · simp only[if_neg gl]
      rw[if_neg (errS_ne l)]
  · simp only[if_neg gs]
    rw[if_neg (errS_ne s)]
end Go.Av
namespace Go.Av
def sameT(a b:T_Tensor):Bool:=decide (a.fType=b.fType)&&decide (a.fDims=b.fDims)&&decide (a.fF=b.fF)&&decide (a.fI=b.fI)&&decide (a.fB=b.fB)
def Small(t:T_Tensor):Prop:=t.fDims.length*8<=140737488351232/\t.fF.length<=140737488351232/\t.fI.length<=140737488351232/\t.fB.length<=140737488351232
def Fuel(fu:Nat)(t:T_Tensor):Prop:=t.fDims.length<fu/\t.fF.length<fu/\t.fI.length<fu/\t.fB.length<fu
theorem sameT_self(a:T_Tensor):sameT a a=true:=by simp[sameT]
def noT:T_Tensor:=⟨0,[],[],[],[]⟩
theorem known_spec{fu:Nat}{k:Int}:tens_known fu k=some (decide (k=1∨k=7∨k=9)):=by
  unfold tens_known tens_Width
  by_cases h1:k=1
  · simp[h1]
  · by_cases h2:k=7
    · simp[h2]
    · by_cases h3:k=9 <;> simp[h1,h2,h3]
def Known(k:Int):Prop:=k=1∨k=7∨k=9
instance (k:Int):Decidable (Known k):=by unfold Known;infer_instance
def LensOK(t:T_Tensor):Prop:=(t.fF.length:Int)=(if t.fType=1 then prod t.fDims else 0)/\(t.fI.length:Int)=(if t.fType=7 then prod t.fDims else 0)/\(t.fB.length:Int)=(if t.fType=9 then prod t.fDims else 0)
instance (t:T_Tensor):Decidable (LensOK t):=by unfold LensOK;infer_instance
def checkV(t:T_Tensor):Int:=if Known t.fType then(if Good t.fDims then(if LensOK t then 0 else 3)else errS t.fDims)else 5
theorem Check_spec{fu:Nat}{t:T_Tensor}(hs:Small t)(hf:Fuel fu t):tens_Check fu t=some (checkV t):=by
  obtain⟨s1,s2,s3,s4⟩:=hs
  unfold tens_Check checkV;try unfold jn
  rw[known_spec,ob_some,Size_spec (by unfold Short;omega) hf.1]
  by_cases hk:Known t.fType
  · rw [if_pos (by simpa[Known]using hk),ob_some,if_pos hk]
    simp only[sizeV]
    by_cases hg:Good t.fDims
    · simp only[if_pos hg,if_true]
      have hp:=prod_nonneg hg.2.1
      have hsum:wk .i64 ((wk .i64 ((t.fF.length:Int)+(t.fI.length:Int)))+(t.fB.length:Int))=t.fF.length+t.fI.length+t.fB.length:=by
        rw[wk_add_l,wk_eq (by omega) (by omega)]
      unfold tens_Check.k1 LensOK
      simp only[hsum]
      rcases hk with e|e|e
      · simp only[e,show ¬ (1:Int)=7 by decide,show ¬ (1:Int)=9 by decide,if_false,if_true]
        by_cases h1:(t.fF.length:Int)=prod t.fDims
        · by_cases h2:(t.fF.length:Int)+t.fI.length+t.fB.length=prod t.fDims
          · rw[if_pos h1,if_pos h2,if_pos ⟨h1,by omega,by omega⟩]
          · rw[if_pos h1,if_neg h2,if_neg (λh=>h2 (by omega))]
        · rw[if_neg h1,if_neg (λh=>h1 h.1)]
      · simp only[e,show ¬ (7:Int)=1 by decide,show ¬ (7:Int)=9 by decide,if_false,if_true]
        by_cases h1:(t.fI.length:Int)=prod t.fDims
        · by_cases h2:(t.fF.length:Int)+t.fI.length+t.fB.length=prod t.fDims
          · rw[if_pos h1,if_pos h2,if_pos ⟨by omega,h1,by omega⟩]
          · rw[if_pos h1,if_neg h2,if_neg (λh=>h2 (by omega))]
        · rw[if_neg h1,if_neg (λh=>h1 h.2.1)]
      · simp only[e,show ¬ (9:Int)=1 by decide,show ¬ (9:Int)=7 by decide,if_false,if_true]
        by_cases h1:(t.fB.length:Int)=prod t.fDims
        · by_cases h2:(t.fF.length:Int)+t.fI.length+t.fB.length=prod t.fDims
          · rw[if_pos h1,if_pos h2,if_pos ⟨by omega,by omega,h1⟩]
          · rw[if_pos h1,if_neg h2,if_neg (λh=>h2 (by omega))]
        · rw[if_neg h1,if_neg (λh=>h1 h.2.2)]
    · simp only[if_neg hg]
      rw[if_neg (errS_ne _)]
  · rw[if_neg (by simpa[Known]using hk),if_neg hk]
theorem checkV_zero{t:T_Tensor}:checkV t=0 ↔ Known t.fType∧Good t.fDims∧LensOK t:=by
  unfold checkV
  by_cases hk:Known t.fType <;> by_cases hg:Good t.fDims <;> by_cases hl:LensOK t <;> simp[hk,hg,hl,errS_ne]
theorem map_loop{β:Type}{l:List Int}{f:Int→Int}{B:((List Int×Int)→Option β)→(List Int×Int)→Option β}{c:List Int→Option β}{fu:Nat}(hf:l.length<fu)
    (hB: ∀ (next:List Int×Int->Option β) (k:Nat) (m:List Int) (hk:k<l.length),m.length=l.length->(hm:m[k]? =some l[k])->B next (m,(k:Int))=next (m.set k (f l[k]),((k+1:Nat):Int)))
    (hE: ∀ next (m:List Int),m.length=l.length->B next (m,(l.length:Int))=c m):cloop B fu (l,0)=c (l.map f):=by
  have:=cloop_up (body:=B) (n:=fu) l.length (λk=>(l.take k).map f++l.drop k) (c (l.map f)) ?_ ?_ hf
  · simpa using this
  · intro k hk next hn
    have hlk:((l.take k).map f).length=k:=by simp;omega
    rw[hB next k _ hk (by simp;omega) (by rw[List.getElem?_append_right (by omega),hlk,Nat.sub_self,List.getElem?_drop];simp[hk])]
    have e:((l.take k).map f++l.drop k).set k (f l[k])=(l.take (k+1)).map f++l.drop (k+1):=by
      rw[List.set_append_right _ _ (by omega),hlk,Nat.sub_self,List.drop_eq_getElem_cons hk,List.set_cons_zero,List.take_add_one,List.getElem?_eq_getElem hk,List.map_append,List.append_assoc]
      rfl
    rw[e]
    exact hn
  · intro next
    rw[hE _ _ (by simp)]
    simp
def canonF(x:Int):Int:=if 2139095040<x%2147483648 then 2143289344 else x
def canonT(t:T_Tensor):T_Tensor:=⟨t.fType,t.fDims,t.fF.map canonF,t.fI,t.fB⟩
theorem wk_eq32{x:Int}(h0:0≤x)(h1:x<4294967296):wk .u32 x=x:=by
  have:wk .u32 x=x%4294967296:=by simp[wk,IntKind.wrap,IntKind.signed,IntKind.bits]
  rw[this,Int.emod_eq_of_lt h0 h1]
theorem abs_u32{x:Int}(h0:0≤x)(h1:x<4294967296):bandn .u32 x 2147483648=x%2147483648:=by
  unfold bandn
  rw[show IntKind.u32.bits=32 from rfl,show ~~~(BitVec.ofInt 32 2147483648)=BitVec.ofNat 32 (2 ^ 31 - 1)by decide,BitVec.toNat_and,BitVec.toNat_ofNat,BitVec.toNat_ofInt]
  have:(2 ^ 31 - 1)%2 ^ 32=2 ^ 31 - 1:=by decide
  rw[this,Nat.and_two_pow_sub_one_eq_mod]
  have hw:=wk_eq32 (x:=(((x%((2 ^ 32:Nat):Int)).toNat%2 ^ 31:Nat):Int)) (by omega) (by omega)
  unfold wk at hw
  rw[hw]
  omega
theorem softCanon_spec{fu:Nat}{x:Int}(h0:0≤x)(h1:x<4294967296):soft_Canon fu x=some (canonF x):=by
  unfold soft_Canon soft_NaN soft_Abs canonF
  rw[abs_u32 h0 h1,ob_some,ob_some]
  by_cases h:2139095040<x%2147483648 <;> simp[h]
def Ten(t:T_Tensor):Prop:=t.fDims.length*8<=140737488351232/\t.fF.length*4<=140737488351232/\t.fI.length*8<=140737488351232/\t.fB.length<=140737488351232/\ ∀ x ∈ t.fF,0<=x/\x<4294967296
theorem Ten.small{t:T_Tensor}(h:Ten t):Small t:=by obtain⟨a,b,c,d,_⟩:=h;exact⟨a,by omega,by omega,by omega⟩
theorem Copy_spec{fu:Nat}{t:T_Tensor}(h:Ten t):tens_Copy fu t=some t:=by
  obtain⟨h1,h2,h3,h4,_⟩:=h
  unfold tens_Copy tens_own_int tens_own_uint32 tens_own_int64 tens_own_bool
  rw[chk_pos (by omega),ob_some,chk_pos (by omega),ob_some,chk_pos (by omega),ob_some,chk_pos (by omega),ob_some]
theorem Canon_spec{fu:Nat}{t:T_Tensor}(h:Ten t)(hf:t.fF.length<fu):tens_Canon fu t=some (canonT t):=by
  have hu:=h.2.2.2.2
  have hl:=h.2.1
  unfold tens_Canon
  rw[Copy_spec h,ob_some]
  unfold tens_Canon.W1
  refine map_loop (f:=canonF) (c:=λm=>some (T_Tensor.mk t.fType t.fDims m t.fI t.fB)) hf ?_ ?_
  · intro next k m hk hm hg
    unfold tens_Canon.L1
    simp only[]
    obtain⟨u1,u2⟩:=hu _ (List.getElem_mem hk)
    rw[if_pos (by omega),at?_nat,hg,ob_some,softCanon_spec u1 u2,ob_some,chk_pos (by omega),wk_succ (by omega)]
    rfl
  · intro next m hm
    unfold tens_Canon.L1
    rw[if_neg (by simp)]
end Go.Av
namespace Go.Av
theorem cloop_succ{σ β:Type}{body:(σ->Option β)->σ->Option β}{n:Nat}{s:σ}:cloop body (n+1) s=body (cloop body n) s:=rfl
def zeroVal:T_Val:=⟨0,[],false,⟨0,[],[],[],[]⟩⟩
def valOf(t:T_Tensor):T_Val:=if t.fType=0 then zeroVal else⟨t.fType,t.fDims,true,t⟩
def Tens(fu:Nat)(l:List T_Tensor):Prop:=l.length<=1048576/\l.length<fu/\ ∀ t ∈ l,Ten t/\Fuel fu t
theorem CloneI_spec{fu:Nat}{l:List Int}(h:l.length*8≤140737488351232):slices_Clone_int fu l=some l:=by
  unfold slices_Clone_int;rw[chk_pos (by omega)]
theorem take_next{α β:Type}{f:α→β}{l:List α}{k:Nat}(hk:k<l.length):(l.take (k+1)).map f=(l.take k).map f++[f l[k]]:=by
  rw[List.take_add_one,List.getElem?_eq_getElem hk,List.map_append];rfl
theorem Vals_all{fu:Nat}{l:List T_Tensor}(h:Tens fu l):ewise_Vals fu l=some (l.map valOf):=by
  unfold ewise_Vals ewise_Vals.W1
  have hl0:=h.1
  refine cloop_up l.length (λk=>(l.take k).map valOf) _ ?_ ?_ h.2.1
  · intro k hk next hn
    have ht:=(h.2.2 _ (List.getElem_mem hk)).1
    show ewise_Vals.L1 fu l _ _ (k:Int)=_
    have hl:((l.take k).map valOf).length=k:=by simp;omega
    rw[take_next hk]at hn
    rw[ewise_Vals.L1,if_pos (by omega),at?_get hk,ob_some,wk_succ (by omega)]
    by_cases h0:l[k].fType=0
    · rw[if_pos h0,chk_pos (by rw[hl];omega)]
      rw[valOf,if_pos h0]at hn
      exact hn
    · rw[if_neg h0,CloneI_spec ht.1,ob_some,Copy_spec ht,ob_some,chk_pos (by rw[hl];omega)]
      rw[valOf,if_neg h0]at hn
      exact hn
  · intro next
    show ewise_Vals.L1 fu l _ _ (l.length:Int)=_
    rw[ewise_Vals.L1,if_neg (by omega),List.take_length]
def badV:List T_Tensor→Option Int
  |[]=>none
  |t::l=>if t.fType=0∨checkV t=0 then badV l else some (checkV t)
theorem badV_none{l:List T_Tensor}(h:badV l=none): ∀ t ∈ l,t.fType=0∨checkV t=0:=by
  induction l with
  |nil=>intro t ht;cases ht
  | cons x l ih=>
    unfold badV at h
    split at h
    · rename_i hx
      intro t ht
      rcases List.mem_cons.1 ht with rfl|ht
      · exact hx
      · exact ih h t ht
    · cases h
theorem badV_some{l:List T_Tensor}{e:Int}(h:badV l=some e):e≠0:=by
  induction l with
  |nil=>cases h
  | cons x l ih=>
    unfold badV at h
    split at h
    · exact ih h
    · rename_i hx
      injection h with h
      subst h
      exact λh0=>hx (.inr h0)
theorem head_loop{β:Type}{fu:Nat}{l:List T_Tensor}(h:Tens fu l){k1:List T_Tensor→Option β}{er:Int→Option β}{L:(List T_Tensor→Int→Option β)→List T_Tensor→Int→Option β}
    (hL: ∀ nx acc i,L nx acc i=if i<(l.length:Int)then((at? l i).bind fun x=>if x.fType=0 then((tens_Canon fu x).bind fun y=>chk ((acc.length+1:Int)*104≤140737488355328)<|nx (acc++([y])) (wk .i64 (i+1)))else
      (tens_Check fu x).bind λc=>if c=0 then((tens_Canon fu x).bind λy=>chk ((acc.length+1:Int)*104<=140737488355328)<|nx (acc++([y])) (wk .i64 (i+1)))else er c)else k1 acc):
    cloop (λnext s=>L (λa b=>next (a,b)) s.1 s.2) fu (([]:List T_Tensor),(0:Int))=match badV l with|some e=>er e|none=>k1 (l.map canonT):=by
  have hl0:=h.1
  have key : ∀ m q k:Nat,l.length - k=m→k≤l.length→m<q→cloop (fun next s=>L (fun a b=>next (a,b)) s.1 s.2) q ((l.take k).map canonT,(k:Int))=match badV (l.drop k)with|some e=>er e|none=>k1 (l.map canonT):=by
    intro m
    induction m with
    | zero=>
      intro q k h1 h2 h3
      cases q with
      |zero=>omega
      | succ q=>
        have:k=l.length:=by omega
        subst this
        rw[cloop_succ]
        show L _ _ (l.length:Int)=_
        rw[hL,if_neg (by omega),List.take_length,List.drop_length]
        rfl
    | succ m ih=>
      intro q k h1 h2 h3
      cases q with
      |zero=>omega
      | succ q=>
        have hk:k<l.length:=by omega
        obtain⟨ht,hf⟩:=h.2.2 _ (List.getElem_mem hk)
        have hl:((l.take k).map canonT).length=k:=by simp;omega
        have hn:=ih q (k+1) (by omega) (by omega) (by omega)
        rw[take_next hk]at hn
        rw[cloop_succ]
        show L _ _ (k:Int)=_
        rw[hL,if_pos (by omega),at?_get hk,ob_some,wk_succ (by omega),List.drop_eq_getElem_cons hk]
        unfold badV
        by_cases h0:l[k].fType=0
        · rw[if_pos h0,Canon_spec ht hf.2.1,ob_some,chk_pos (by rw[hl];omega),if_pos (.inl h0)]
          exact hn
        · rw[if_neg h0,Check_spec ht.small hf,ob_some]
          by_cases hc:checkV l[k]=0
          · rw[if_pos hc,Canon_spec ht hf.2.1,ob_some,chk_pos (by rw[hl];omega),if_pos (.inr hc)]
            exact hn
          · rw[if_neg hc,if_neg (λhh=>hh.elim h0 hc)]
  exact key l.length fu 0 (by omega) (by omega) h.2.1
end Go.Av
namespace Go.Av
def newV(k:Int)(d:List Int):T_Tensor×Int:=
  if k=1∨k=7∨k=9 then(if Good d then(if k=1 then(⟨k,d,List.replicate (prod d).toNat 0,[],[]⟩,0)else if k=7 then(⟨k,d,[],List.replicate (prod d).toNat 0,[]⟩,0)else(⟨k,d,[],[],List.replicate (prod d).toNat false⟩,0))else(noT,errS d))else(noT,5)
theorem New_spec{fu:Nat}{k:Int}{d:List Int}(hd:Short d)(hf:d.length<fu):tens_New fu k d=some (newV k d):=by
  unfold tens_New newV
  rw[known_spec,ob_some,Size_spec hd hf,ob_some]
  by_cases hk:k=1∨k=7∨k=9
  · rw [if_pos (by simpa using hk),if_pos hk]
    simp only[sizeV]
    by_cases hg:Good d
    · simp only[if_pos hg,if_true]
      have h1:=prod_nonneg hg.2.1
      have h2:=hg.2.2
      have h3:=hg.1
      unfold slices_Clone_int
      rw[chk_pos (by omega),ob_some,chk_pos (by omega),chk_pos (by omega),chk_pos (by omega)]
      by_cases e1:k=1
      · rw[if_pos e1,if_pos e1]
      · rw[if_neg e1,if_neg e1]
        by_cases e2:k=7
        · rw[if_pos e2,if_pos e2]
        · rw[if_neg e2,if_neg e2]
    · simp only[if_neg hg]
      rw[if_neg (errS_ne d)]
      rfl
  · rw[if_neg (by simpa using hk),if_neg hk]
    rfl
end Go.Av
set_option linter.unusedSimpArgs false
namespace Go.Av
def outV(k:Int)(d:List Int):T_Val:=⟨k,d,false,⟨0,[],[],[],[]⟩⟩
def OPS(op:Int):Prop:=op=23∨op=24∨op=25∨op=28∨op=29∨op=30∨op=31∨op=32∨op=33∨op=34∨op=35∨op=36∨op=37∨op=38∨op=39∨op=40∨op=41
def okT(op t:Int):Prop:=if op=23∨op=24∨op=25 then t=9 else if op=37 then t=1∨t=7∨t=9 else if op=33∨op=36 then t=1 else t=1∨t=7
def outT(op t:Int):Int:=if op=23∨op=24∨op=25∨op=37∨op=38∨op=39∨op=40∨op=41 then 9 else t
instance (op t:Int):Decidable (okT op t):=by unfold okT;infer_instance
def srt(op:Int):ByteArray:=if op=23∨op=24∨op=25 then⟨#[98]⟩else if op=37 then⟨#[97,61]⟩else if op=33∨op=36 then⟨#[102]⟩else⟨#[110,61]⟩
theorem sorts_spec{fu:Nat}{op:Int}(h:OPS op):infer_sorts fu op=some (srt op):=by
  rcases h with rfl|rfl|rfl|rfl|rfl|rfl|rfl|rfl|rfl|rfl|rfl|rfl|rfl|rfl|rfl|rfl|rfl <;> rfl
theorem arity_spec{fu:Nat}{op:Int}(h:OPS op):ops_Arity fu op=some (2,2,1,1):=by
  rcases h with rfl|rfl|rfl|rfl|rfl|rfl|rfl|rfl|rfl|rfl|rfl|rfl|rfl|rfl|rfl|rfl|rfl <;> rfl
section
variable {fu:Nat} {op:Int} {s:T_Setting} {u v:T_Val}
theorem val2_0:infer_ask_val fu ⟨op,s,[u,v],1⟩ 0=some u:=rfl
theorem val2_1:infer_ask_val fu ⟨op,s,[u,v],1⟩ 1=some v:=rfl
theorem has2_0:infer_ask_has fu ⟨op,s,[u,v],1⟩ 0=some (!(decide (u.fType=0))):=rfl
theorem has2_1:infer_ask_has fu ⟨op,s,[u,v],1⟩ 1=some (!(decide (v.fType=0))):=rfl
theorem dims2_0:infer_ask_dims fu ⟨op,s,[u,v],1⟩ 0=some u.fDims:=rfl
theorem dims2_1:infer_ask_dims fu ⟨op,s,[u,v],1⟩ 1=some v.fDims:=rfl
theorem two_0:(0:Int)<(([u,v]:List T_Val).length:Int):=by simp only[List.length_cons,List.length_nil];decide
theorem two_1:(1:Int)<(([u,v]:List T_Val).length:Int):=by simp only[List.length_cons,List.length_nil];decide
theorem two_2: ¬ (2:Int)<(([u,v]:List T_Val).length:Int):=by simp only[List.length_cons,List.length_nil];decide
theorem w64_1:wk .i64 ((0:Int)+1)=1:=by decide
theorem w64_2:wk .i64 ((1:Int)+1)=2:=by decide
theorem complete2(h:OPS op)(hf:4<fu):infer_ask_complete fu ⟨op,s,[u,v],1⟩=some (decide (u.fType≠0∧v.fType≠0)):=by
  obtain⟨q,rfl⟩: ∃ q,fu=q+3:=⟨fu - 3,by omega⟩
  unfold infer_ask_complete;try unfold jn
  have h61: ¬ op=61:=by rcases h with rfl|rfl|rfl|rfl|rfl|rfl|rfl|rfl|rfl|rfl|rfl|rfl|rfl|rfl|rfl|rfl|rfl <;> decide
  rw[arity_spec h,ob_some]
  simp only[List.length_cons,List.length_nil]
  rw[if_neg (by decide),if_neg h61,if_neg (by decide),if_neg (by decide),if_neg (by decide),if_neg (by decide)]
  unfold infer_ask_complete.k1 infer_ask_complete.W1
  rw[cloop_succ,infer_ask_complete.L1,if_pos (by decide),has2_0,ob_some,w64_1]
  by_cases h0:u.fType=0
  · simp[h0]
  · rw[if_pos (by simpa using h0),cloop_succ,infer_ask_complete.L1,if_pos (by decide),has2_1,ob_some,w64_2]
    by_cases h1:v.fType=0
    · simp[h0,h1]
    · rw[if_pos (by simpa using h1),cloop_succ,infer_ask_complete.L1,if_neg (by decide)]
      simp[h0,h1]
def wdt(t:Int):Int:=if t=1 then 4 else if t=7 then 8 else if t=9 then 1 else 0
theorem width_spec{t:Int}:tens_Width fu t=some (wdt t):=by
  unfold tens_Width wdt
  by_cases h1:t=1
  · simp[h1]
  · by_cases h2:t=7
    · simp[h2]
    · by_cases h3:t=9 <;> simp[h1,h2,h3]
theorem wdt_zero{t:Int}:wdt t=0 ↔ ¬ (t=1∨t=7∨t=9):=by
  unfold wdt
  by_cases h1:t=1
  · simp[h1]
  · by_cases h2:t=7
    · simp[h2]
    · by_cases h3:t=9 <;> simp[h1,h2,h3]
theorem fits2_1:infer_ask_fits fu ⟨op,s,[u,v],1⟩ 1 61=some (decide (v.fType=u.fType)):=rfl
theorem fits2_b{i:Int}{w:T_Val}(hv:infer_ask_val fu ⟨op,s,[u,v],1⟩ i=some w):infer_ask_fits fu ⟨op,s,[u,v],1⟩ i 98=some (decide (w.fType=9)):=by
  unfold infer_ask_fits;rw[hv];rfl
theorem fits2_f{i:Int}{w:T_Val}(hv:infer_ask_val fu ⟨op,s,[u,v],1⟩ i=some w):infer_ask_fits fu ⟨op,s,[u,v],1⟩ i 102=some (decide (w.fType=1)):=by
  unfold infer_ask_fits;rw[hv];rfl
theorem fits2_n:infer_ask_fits fu ⟨op,s,[u,v],1⟩ 0 110=some (decide (u.fType=1∨u.fType=7)):=by
  unfold infer_ask_fits infer_ask_fits.k1;try unfold jn
  rw[val2_0,ob_some,if_pos rfl]
  by_cases h1:u.fType=1 <;> simp[h1]
theorem fits2_a:infer_ask_fits fu ⟨op,s,[u,v],1⟩ 0 97=some (decide (0<wdt u.fType)):=by
  unfold infer_ask_fits;try unfold jn
  rw[val2_0,ob_some,if_neg (by decide),if_neg (by decide),if_neg (by decide),if_neg (by decide),if_neg (by decide),if_neg (by decide),width_spec,ob_some]
def lt0(op:Int):Int:=if op=23∨op=24∨op=25 then 98 else if op=37 then 97 else if op=33∨op=36 then 102 else 110
def lt1(op:Int):Int:=if op=23∨op=24∨op=25 then 98 else if op=33∨op=36 then 102 else 61
theorem srt_0(h:OPS op):sat? (srt op) (imin 0 (wk .i64 (((srt op).size:Int) - 1)))=some (lt0 op):=by
  rcases h with rfl|rfl|rfl|rfl|rfl|rfl|rfl|rfl|rfl|rfl|rfl|rfl|rfl|rfl|rfl|rfl|rfl <;> decide
theorem srt_1(h:OPS op):sat? (srt op) (imin 1 (wk .i64 (((srt op).size:Int) - 1)))=some (lt1 op):=by
  rcases h with rfl|rfl|rfl|rfl|rfl|rfl|rfl|rfl|rfl|rfl|rfl|rfl|rfl|rfl|rfl|rfl|rfl <;> decide
theorem wdt_pos{t:Int}:0<wdt t ↔ t=1∨t=7∨t=9:=by
  unfold wdt
  by_cases h1:t=1
  · simp[h1]
  · by_cases h2:t=7
    · simp[h2]
    · by_cases h3:t=9 <;> simp[h1,h2,h3]
theorem fit_0(h:OPS op)(hk:u.fType=1∨u.fType=7∨u.fType=9):infer_ask_fits fu ⟨op,s,[u,v],1⟩ 0 (lt0 op)=some (decide (okT op u.fType)):=by
  rcases h with rfl|rfl|rfl|rfl|rfl|rfl|rfl|rfl|rfl|rfl|rfl|rfl|rfl|rfl|rfl|rfl|rfl
  · exact fits2_b val2_0
  · exact fits2_b val2_0
  · exact fits2_b val2_0
  · exact fits2_n
  · exact fits2_n
  · exact fits2_n
  · exact fits2_n
  · exact fits2_n
  · exact fits2_f val2_0
  · exact fits2_n
  · exact fits2_n
  · exact fits2_f val2_0
  · refine fits2_a.trans ?_
    congr 1
    exact decide_eq_decide.2 wdt_pos
  · exact fits2_n
  · exact fits2_n
  · exact fits2_n
  · exact fits2_n
theorem fit_1(h:OPS op)(hk:okT op u.fType):infer_ask_fits fu ⟨op,s,[u,v],1⟩ 1 (lt1 op)=some (decide (v.fType=u.fType)):=by
  rcases h with rfl|rfl|rfl|rfl|rfl|rfl|rfl|rfl|rfl|rfl|rfl|rfl|rfl|rfl|rfl|rfl|rfl
  · have:u.fType=9:=hk
    rw[this];exact fits2_b val2_1
  · have:u.fType=9:=hk
    rw[this];exact fits2_b val2_1
  · have:u.fType=9:=hk
    rw[this];exact fits2_b val2_1
  · exact fits2_1
  · exact fits2_1
  · exact fits2_1
  · exact fits2_1
  · exact fits2_1
  · have:u.fType=1:=hk
    rw[this];exact fits2_f val2_1
  · exact fits2_1
  · exact fits2_1
  · have:u.fType=1:=hk
    rw[this];exact fits2_f val2_1
  · exact fits2_1
  · exact fits2_1
  · exact fits2_1
  · exact fits2_1
  · exact fits2_1
theorem okT_known(h:okT op u.fType):u.fType=1∨u.fType=7∨u.fType=9:=by
  unfold okT at h
  split at h
  · exact .inr (.inr h)
  · split at h
    · exact h
    · split at h
      · exact .inl h
      · exact h.elim .inl λh=> .inr (.inl h)
theorem typed2(h:OPS op)(h0:u.fType≠0)(h1:v.fType≠0)(hf:4<fu):infer_ask_typed fu ⟨op,s,[u,v],1⟩=some (decide (okT op u.fType∧v.fType=u.fType)):=by
  obtain⟨q,rfl⟩: ∃ q,fu=q+3:=⟨fu - 3,by omega⟩
  have h52: ¬ op=52:=by rcases h with rfl|rfl|rfl|rfl|rfl|rfl|rfl|rfl|rfl|rfl|rfl|rfl|rfl|rfl|rfl|rfl|rfl <;> decide
  unfold infer_ask_typed;try unfold jn
  show(infer_sorts _ op).bind _=_
  rw[sorts_spec h,ob_some]
  unfold infer_ask_typed.W1
  rw[cloop_succ,infer_ask_typed.L1,if_pos two_0,has2_0,ob_some,if_pos (by simpa using h0),val2_0,ob_some,width_spec,ob_some]
  by_cases hk:u.fType=1∨u.fType=7∨u.fType=9
  · rw [if_neg (fun hh=>wdt_zero.1 hh hk),srt_0 h,ob_some,fit_0 h hk,ob_some,w64_1]
    by_cases ho:okT op u.fType
    · rw [if_pos (by simpa using ho),cloop_succ,infer_ask_typed.L1,if_pos two_1,has2_1,ob_some,if_pos (by simpa using h1),val2_1,ob_some,width_spec,ob_some]
      by_cases hv:v.fType=1∨v.fType=7∨v.fType=9
      · rw[if_neg (fun hh=>wdt_zero.1 hh hv),srt_1 h,ob_some,fit_1 h ho,ob_some,w64_2]
        by_cases he:v.fType=u.fType
        · rw[if_pos (by simpa using he),cloop_succ,infer_ask_typed.L1,if_neg two_2,infer_ask_typed.k1,if_neg h52]
          simp[ho,he]
        · rw[if_neg (by simpa using he)]
          simp[he]
      · rw[if_pos (wdt_zero.2 hv)]
        have: ¬ v.fType=u.fType:=λhe=>hv (he ▸ hk)
        simp[this]
    · rw[if_neg (by simpa using ho)]
      simp[ho]
  · rw[if_pos (wdt_zero.2 hk)]
    have: ¬ okT op u.fType:=λho=>hk (okT_known ho)
    simp[this]
def okA(op:Int)(s:T_Setting)(t:Int):Prop:=op=32->s.fFmod=true∨t=7
instance (op:Int) (s:T_Setting) (t:Int):Decidable (okA op s t):=by unfold okA;infer_instance
theorem attr2(h:OPS op):infer_ask_attributes fu ⟨op,s,[u,v],1⟩=some (decide (okA op s u.fType)):=by
  by_cases h32:op=32
  · subst h32
    unfold infer_ask_attributes
    rw[show infer_ask_rank fu ⟨32,s,[u,v],1⟩=some (u.fDims.length:Int)from rfl,ob_some]
    dsimp only
    rw[if_pos rfl]
    by_cases hm:s.fFmod=true
    · rw[if_pos hm];simp[okA,hm]
    · rw[if_neg hm,val2_0,ob_some];simp[okA,hm]
  · have e:decide (okA op s u.fType)=true:=by simp[okA,h32]
    rw[e]
    rcases h with rfl|rfl|rfl|rfl|rfl|rfl|rfl|rfl|rfl|rfl|rfl|rfl|rfl|rfl|rfl|rfl|rfl|rfl|rfl|rfl|rfl|rfl|rfl|rfl|rfl|rfl <;> first|rfl|exact absurd rfl h32
theorem lists2(h:OPS op):infer_ask_lists fu ⟨op,s,[u,v],1⟩=some []:=by
  rcases h with rfl|rfl|rfl|rfl|rfl|rfl|rfl|rfl|rfl|rfl|rfl|rfl|rfl|rfl|rfl|rfl|rfl <;> rfl
theorem told2(h:OPS op)(hf:4<fu):infer_ask_told fu ⟨op,s,[u,v],1⟩=some 0:=by
  obtain⟨q,rfl⟩: ∃ q,fu=q+1:=⟨fu - 1,by omega⟩
  unfold infer_ask_told
  rw[lists2 h,ob_some]
  have h49: ¬ op=49:=by rcases h with rfl|rfl|rfl|rfl|rfl|rfl|rfl|rfl|rfl|rfl|rfl|rfl|rfl|rfl|rfl|rfl|rfl <;> decide
  have hc: ∀ p:T_Val->Option Bool,slices_ContainsFunc_api_Val_api_Val (q+1) [] p=some false:=λp=>rfl
  rw[hc,ob_some,if_neg (by decide),hc,ob_some,if_neg (by decide)]
  show(if op=49 then none else _)=_
  rw[if_neg h49,hc,ob_some,if_neg (by decide)]
theorem wrong2(h:OPS op)(h0:u.fType≠0)(h1:v.fType≠0)(gu:Good u.fDims)(gv:Good v.fDims)(hf:9<fu):infer_ask_wrong fu ⟨op,s,[u,v],1⟩=some (if okT op u.fType∧v.fType=u.fType then(if okA op s u.fType then 0 else 14)else 5):=by
  have hu:shape_Size fu u.fDims=some (sizeV u.fDims):=Size_spec (by have:=gu.1;unfold Short;omega) (by have:=gu.1;omega)
  have hv:shape_Size fu v.fDims=some (sizeV v.fDims):=Size_spec (by have:=gv.1;unfold Short;omega) (by have:=gv.1;omega)
  unfold infer_ask_wrong infer_ask_wrong.W1;try unfold jn
  obtain⟨q,hq⟩: ∃ q,fu=q+3:=⟨fu - 3,by omega⟩
  have key: ∀ n,cloop (fun next s_1=>infer_ask_wrong.L1 fu ⟨op,s,[u,v],1⟩ next s_1) (n+3) 0=infer_ask_wrong.k1 fu ⟨op,s,[u,v],1⟩:=by
    intro n
    have hu2:(sizeV u.fDims).2=0:=by simp only[sizeV,if_pos gu]
    have hv2:(sizeV v.fDims).2=0:=by simp only[sizeV,if_pos gv]
    rw[cloop_succ,infer_ask_wrong.L1,if_pos two_0,show at? [u,v] (0:Int)=some u from rfl,ob_some,hu,ob_some,has2_0,ob_some,if_pos (by simpa using h0),if_pos hu2,w64_1]
    rw[cloop_succ,infer_ask_wrong.L1,if_pos two_1,show at? [u,v] (1:Int)=some v from rfl,ob_some,hv,ob_some,has2_1,ob_some,if_pos (by simpa using h1),if_pos hv2,w64_2]
    rw[cloop_succ,infer_ask_wrong.L1,if_neg two_2]
  have:cloop (fun next s_1=>infer_ask_wrong.L1 fu ⟨op,s,[u,v],1⟩ next s_1) fu 0=infer_ask_wrong.k1 fu ⟨op,s,[u,v],1⟩:=by
    have:=key q
    rwa[← hq]at this
  rw[this]
  unfold infer_ask_wrong.k1
  rw[typed2 h h0 h1 (by omega),ob_some]
  by_cases ht:okT op u.fType/\v.fType=u.fType
  · rw[if_pos (by simpa using ht),attr2 h,ob_some,if_pos ht]
    by_cases ha:okA op s u.fType
    · rw[if_pos (by simpa using ha),told2 h (by omega),ob_some,if_pos ha]
    · rw[if_neg (by simpa using ha),if_neg ha]
  · rw[if_neg (by simpa using ht),if_neg ht]
theorem good_bc{a b:List Int}(h:(broadcastV a b).2=0):Good (broadcastV a b).1:=by
  unfold broadcastV at h ⊢
  by_cases h1:Good a
  · by_cases h2:Good b
    · simp only[if_pos h1,if_pos h2]at h ⊢
      cases hl:bc a b with
      |none=>rw[hl]at h;exact absurd h (by decide)
      | some l=>
        rw[hl]at h
        simp only at h ⊢
        by_cases h3:Good l
        · rw[if_pos h3];exact h3
        · rw[if_neg h3]at h;exact absurd h (errS_ne _)
    · simp only[if_pos h1,if_neg h2]at h;exact absurd h (errS_ne _)
  · simp only[if_neg h1]at h;exact absurd h (errS_ne _)
theorem together2(gu:Good u.fDims)(gv:Good v.fDims)(hf:9<fu):infer_ask_together fu ⟨op,s,[u,v],1⟩=some (if(broadcastV u.fDims v.fDims).2=0 then([(broadcastV u.fDims v.fDims).1],0)else([],(broadcastV u.fDims v.fDims).2)):=by
  unfold infer_ask_together;try unfold jn
  rw[dims2_0,ob_some]
  unfold infer_ask_together.W1
  have hb:shape_Broadcast fu u.fDims v.fDims=some (broadcastV u.fDims v.fDims):=Broadcast_spec (by have:=gu.1;unfold Short;omega) (by have:=gv.1;unfold Short;omega) (by have:=gu.1;omega) (by have:=gv.1;omega) hf
  obtain⟨q,hq⟩: ∃ q,fu=q+2:=⟨fu - 2,by omega⟩
  have key: ∀ n,cloop (fun next s_1=>infer_ask_together.L1 fu ⟨op,s,[u,v],1⟩ (fun x7 x8=>next (x7,x8)) s_1.1 s_1.2) (n+2) (u.fDims,1)=some (if(broadcastV u.fDims v.fDims).2=0 then([(broadcastV u.fDims v.fDims).1],0)else([],(broadcastV u.fDims v.fDims).2)):=by
    intro n
    rw[cloop_succ]
    show infer_ask_together.L1 fu _ _ u.fDims 1=_
    rw[infer_ask_together.L1,if_pos two_1,dims2_1,ob_some,hb,ob_some,w64_2]
    by_cases h0:(broadcastV u.fDims v.fDims).2=0
    · rw[if_pos h0,if_pos h0,cloop_succ]
      show infer_ask_together.L1 fu _ _ _ 2=_
      rw[infer_ask_together.L1,if_neg two_2]
      rfl
    · rw[if_neg h0,if_neg h0]
  have:=key q
  rwa[← hq]at this
def shp(op:Int)(a b:List Int):Option (List Int):=if op=36 then(if broadcastV b a=(a,0)then some a else none)else if(broadcastV a b).2=0 then some (broadcastV a b).1 else none
theorem within2(gu:Good u.fDims)(gv:Good v.fDims)(hf:9<fu): ∃ e,infer_within fu v.fDims u.fDims=some e∧(e=0 ↔ broadcastV v.fDims u.fDims=(u.fDims,0)):=by
  have hb:shape_Broadcast fu v.fDims u.fDims=some (broadcastV v.fDims u.fDims):=Broadcast_spec (by have:=gv.1;unfold Short;omega) (by have:=gu.1;unfold Short;omega) (by have:=gv.1;omega) (by have:=gu.1;omega) hf
  unfold infer_within
  rw[hb,ob_some]
  by_cases h4:(broadcastV v.fDims u.fDims).2=4
  · rw[if_pos h4]
    refine⟨_,rfl,λh=>absurd (h4.symm.trans h) (by decide),λh=> ?_⟩
    rw[h]at h4;exact absurd (show(0:Int)=4 from h4) (by decide)
  · rw [if_neg h4]
    by_cases h0:(broadcastV v.fDims u.fDims).2=0
    · have gd:=good_bc h0
      rw[if_pos h0,Equal_spec (by have:=gd.1;unfold Short;omega) (by have:=gd.1;omega),ob_some]
      by_cases he:(broadcastV v.fDims u.fDims).1=u.fDims
      · rw[if_pos (by simpa using he)]
        exact⟨0,rfl,λ_=>Prod.ext he h0,λ_=>rfl⟩
      · rw[if_neg (by simpa using he)]
        refine⟨3,rfl,λh=>absurd h (by decide),λh=> ?_⟩
        rw[h]at he;exact absurd rfl he
    · rw[if_neg h0]
      refine⟨3,rfl,λh=>absurd h (by decide),λh=> ?_⟩
      rw[h]at h0;exact absurd rfl h0
theorem shapes2(h:OPS op)(gu:Good u.fDims)(gv:Good v.fDims)(hf:9<fu): ∃ l e,infer_ask_shapes fu ⟨op,s,[u,v],1⟩=some (l,e)∧((e=0∧ ∃ d,shp op u.fDims v.fDims=some d∧l=[d])∨(e≠0∧shp op u.fDims v.fDims=none)):=by
  by_cases h36:op=36
  · subst h36
    obtain⟨e,he,hi⟩:=within2 (fu:=fu) gu gv hf
    have e0:infer_ask_shapes fu ⟨36,s,[u,v],1⟩=((infer_within fu v.fDims u.fDims).bind λx7=>if x7=0 then(infer_ask_shapes.k1 fu u.fDims)else some ([],x7)):=rfl
    rw[e0,he,ob_some]
    by_cases hz:e=0
    · rw[if_pos hz]
      exact⟨_,_,rfl,.inl ⟨rfl,u.fDims,by unfold shp;rw[if_pos rfl,if_pos (hi.1 hz)],rfl⟩⟩
    · rw[if_neg hz]
      exact⟨_,_,rfl,.inr ⟨hz,by unfold shp;rw[if_pos rfl,if_neg (λhh=>hz (hi.2 hh))]⟩⟩
  · have e0:infer_ask_shapes fu ⟨op,s,[u,v],1⟩=((infer_ask_together fu ⟨op,s,[u,v],1⟩).bind fun x5=>some (x5.1,x5.2)):=by
      rcases h with rfl|rfl|rfl|rfl|rfl|rfl|rfl|rfl|rfl|rfl|rfl|rfl|rfl|rfl|rfl|rfl|rfl|rfl|rfl|rfl|rfl|rfl|rfl|rfl|rfl|rfl <;> first|rfl|exact absurd rfl h36
    rw[e0,together2 gu gv hf,ob_some]
    have es:shp op u.fDims v.fDims=if(broadcastV u.fDims v.fDims).2=0 then some (broadcastV u.fDims v.fDims).1 else none:=by unfold shp;rw[if_neg h36]
    by_cases hb:(broadcastV u.fDims v.fDims).2=0
    · rw[if_pos hb]
      exact⟨_,_,rfl,.inl ⟨rfl,_,by rw[es,if_pos hb],rfl⟩⟩
    · rw[if_neg hb]
      exact⟨_,_,rfl,.inr ⟨hb,by rw[es,if_neg hb]⟩⟩
theorem shp_good{a b d:List Int}(ga:Good a)(h:shp op a b=some d):Good d:=by
  unfold shp at h
  split at h
  · split at h
    · injection h with h;subst h;exact ga
    · cases h
  · split at h
    · rename_i hb
      injection h with h;subst h;exact good_bc hb
    · cases h
theorem out2(h:OPS op):infer_ask_out fu ⟨op,s,[u,v],1⟩=some (outT op u.fType):=by
  rcases h with rfl|rfl|rfl|rfl|rfl|rfl|rfl|rfl|rfl|rfl|rfl|rfl|rfl|rfl|rfl|rfl|rfl <;> rfl
def Acc(op:Int)(s:T_Setting)(u v:T_Val)(d:List Int):Prop:=u.fType≠0/\v.fType≠0/\okT op u.fType/\v.fType=u.fType/\okA op s u.fType/\shp op u.fDims v.fDims=some d
theorem Node2(h:OPS op)(gu:Good u.fDims)(gv:Good v.fDims)(hf:9<fu):
    (∃ d,Acc op s u v d/\infer_Node fu op s [u,v] 1=some ([outV (outT op u.fType) d],0))∨((∀ d,¬ Acc op s u v d)/\ ∃ l e,e≠0/\infer_Node fu op s [u,v] 1=some (l,e)):=by
  unfold infer_Node
  rw[complete2 h (by omega),ob_some]
  by_cases hc:u.fType≠0/\v.fType≠0
  · obtain ⟨h0,h1⟩:=hc
    rw[if_pos (by simp[h0,h1]),wrong2 h h0 h1 gu gv hf,ob_some]
    by_cases ht:okT op u.fType/\v.fType=u.fType
    · rw [if_pos ht]
      by_cases ha:okA op s u.fType
      · rw [if_pos ha,if_pos rfl]
        obtain⟨l,e,hs,⟨he,d,hd,hl⟩|⟨he,hd⟩⟩:=shapes2 (s:=s) h gu gv hf
        · refine .inl ⟨d,⟨h0,h1,ht.1,ht.2,ha,hd⟩,?_⟩
          subst he hl
          rw[hs,ob_some,if_pos rfl]
          have gd:=shp_good gu hd
          unfold infer_Node.W1
          obtain⟨q,hq⟩: ∃ q,fu=q+2:=⟨fu - 2,by omega⟩
          have hs:shape_Size fu d=some (sizeV d):=Size_spec (by have:=gd.1;unfold Short;omega) (by have:=gd.1;omega)
          have hcl:slices_Clone_int fu d=some d:=Clone_spec (good_short gd)
          have key: ∀ n,cloop (fun next s_1=>infer_Node.L1 fu op s [u,v] 1 ([d],0) (fun x12 x13=>next (x12,x13)) s_1.1 s_1.2) (n+2) ([],0)=some ([outV (outT op u.fType) d],0):=by
            intro n
            have hs2:(sizeV d).2=0:=by simp only[sizeV,if_pos gd]
            rw[cloop_succ]
            show infer_Node.L1 fu op s [u,v] 1 _ _ [] 0=_
            rw[infer_Node.L1,if_pos (by simp),show at? ([d],(0:Int)).1 (0:Int)=some d from rfl,ob_some,hs,ob_some,if_pos hs2,out2 h,ob_some,hcl,ob_some,chk_pos (by decide),w64_1,cloop_succ]
            show infer_Node.L1 fu op s [u,v] 1 _ _ _ 1=_
            rw[infer_Node.L1,if_neg (by simp)]
            rfl
          have:=key q
          rwa[← hq]at this
        · refine .inr ⟨fun d hh=> ?_,[],e,he,?_⟩
          · have:=hh.2.2.2.2.2;rw[hd]at this;cases this
          · rw[hs,ob_some,if_neg he]
      · refine .inr ⟨fun d hh=>ha hh.2.2.2.2.1,[],14,by decide,?_⟩
        rw[if_neg ha,if_neg (by decide)]
    · refine .inr ⟨fun d hh=>ht ⟨hh.2.2.1,hh.2.2.2.1⟩,[],5,by decide,?_⟩
      rw[if_neg ht,if_neg (by decide)]
  · refine .inr ⟨fun d hh=>hc ⟨hh.1,hh.2.1⟩,[],1,by decide,?_⟩
    rw[if_neg (by simpa using hc)]
end
end Go.Av
set_option linter.unusedSimpArgs false
namespace Go.Av
theorem fromS_lt: ∀ {s l xs:List Int},s.length=l.length→l.length=xs.length→dimsFit s l→okIx l xs=true→0≤fromS s xs∧fromS s xs<prod s
  |[],[],[],_,_,_,_=>by simp[fromS,prod]
  | d ::s,x::l,y::xs,h1,h2,hf,ho=>by
    simp only[okIx,Bool.and_eq_true,decide_eq_true_eq]at ho
    obtain⟨f1,f2⟩:=fromS_lt (s:=s) (l:=l) (xs:=xs) (by simpa using h1) (by simpa using h2) hf.2 ho.2
    simp only[fromS,prod]
    by_cases hd:d=1
    · rw[if_pos hd,hd,Int.one_mul];omega
    · rw[if_neg hd]
      have:=hf.1.resolve_left hd
      have m1:(y+1)*prod s<=d*prod s:=Int.mul_le_mul_of_nonneg_right (by omega) (by omega)
      rw[Int.add_mul,Int.one_mul]at m1
      have m2:0<=y*prod s:=Int.mul_nonneg ho.1.1 (by omega)
      omega
theorem cloop_st{τ β:Type}{body:(τ→Option β)→τ→Option β}(N:Nat)(st:Nat→τ)(r:Option β)(h: ∀ k,k<N→ ∀ next,next (st (k+1))=r→body next (st k)=r)
    (he: ∀ next,body next (st N)=r) {n:Nat} (hn:N<n):cloop body n (st 0)=r:=by
  have : ∀ m k,k≤N→N - k<m→cloop body m (st k)=r:=by
    intro m
    induction m with
    |zero=>intro k _ h;omega
    | succ m ih=>
      intro k hk hm
      rw[cloop_succ]
      by_cases hlt:k<N
      · exact h k hlt _ (ih (k+1) (by omega) (by omega))
      · obtain rfl:k=N:=by omega
        exact he _
  exact this n 0 (by omega) (by omega)
def fillL{α:Type}(n:Nat)(g:Nat->α)(z:α)(k:Nat):List α:=(List.range k).map g++List.replicate (n - k) z
theorem fillL_full{α:Type}{n:Nat}{g:Nat->α}{z:α}:fillL n g z n=(List.range n).map g:=by simp[fillL]
theorem fillL_len{α:Type}{n k:Nat}{g:Nat->α}{z:α}(h:k<=n):(fillL n g z k).length=n:=by simp[fillL];omega
theorem fillL_set{α:Type}{n k:Nat}{g:Nat→α}{z:α}(h:k<n):(fillL n g z k).set k (g k)=fillL n g z (k+1):=by
  unfold fillL
  rw[List.set_append_right _ _ (by simp)]
  obtain⟨m,hm⟩: ∃ m,n - k=m+1:=⟨n - k - 1,by omega⟩
  have hm2:n - (k+1)=m:=by omega
  rw[hm,hm2,List.replicate_succ,List.range_succ,List.map_append]
  simp
def pl1(s d:List Int)(k:Nat):Nat:=(fromV s d (k:Int)).1.toNat
theorem pl1_spec{s d:List Int}{k:Nat}(gs:Good s)(gd:Good d)(hb:broadcastV s d=(d,0))(hk:(k:Int)<prod d):fromV s d (k:Int)=(((pl1 s d k:Nat):Int),0)∧((pl1 s d k:Nat):Int)<prod s:=by
  obtain⟨h1,h2,h3⟩:=bcast_fit gs gd hb
  have hp: ∀ x ∈ d,1<=x:=pos_of_good gd (by omega)
  have e:fromV s d (k:Int)=(fromS s ((idxV d k).drop (d.length - s.length)),0):=by
    unfold fromV
    rw[if_pos gs,if_pos gd,if_pos hb,if_pos ⟨by omega,hk⟩]
  have hok:=okIx_drop (d.length - s.length) (okIx_idx hp (by omega:(0:Int)<=(k:Int)) hk)
  obtain⟨f1,f2⟩:=fromS_lt (s:=s) (by simp;omega) (by simp[idxV_length]) h3 hok
  unfold pl1
  rw[e]
  simp only
  rw[Int.toNat_of_nonneg f1]
  exact⟨rfl,f2⟩
structure Two (fu:Nat) (a b:T_Tensor) (d:List Int):Prop where
  ga:Good a.fDims
  gb:Good b.fDims
  gd:Good d
  ba:broadcastV a.fDims d=(d,0)
  bb:broadcastV b.fDims d=(d,0)
  la:LensOK a
  lb:LensOK b
  hf:4200<fu
section
variable {fu:Nat} {a b:T_Tensor} {d:List Int} {k:Nat} {op t n:Int} {s:T_Setting} {F I:List Int} {B:List Bool}
theorem place_0(h:Two fu a b d)(hk:(k:Int)<prod d):ewise_work_place fu ⟨op,s,[a,b],⟨t,d,F,I,B⟩,n⟩ 0 (k:Int)=some ((pl1 a.fDims d k:Nat):Int):=by
  have h1:=h.ga.1;have h2:=h.gd.1;have h3:=h.hf
  unfold ewise_work_place
  dsimp only
  rw[show at? [a,b] (0:Int)=some a from rfl,ob_some,From_spec (by unfold Short;omega) (by unfold Short;omega) (by omega) (by omega) (by omega),ob_some,(pl1_spec h.ga h.gd h.ba hk).1]
theorem place_1(h:Two fu a b d)(hk:(k:Int)<prod d):ewise_work_place fu ⟨op,s,[a,b],⟨t,d,F,I,B⟩,n⟩ (wk .i64 ((([a,b]:List T_Tensor).length:Int) - 1)) (k:Int)=some ((pl1 b.fDims d k:Nat):Int):=by
  have h1:=h.gb.1;have h2:=h.gd.1;have h3:=h.hf
  unfold ewise_work_place
  dsimp only
  rw[show at? [a,b] (wk .i64 ((([a,b]:List T_Tensor).length:Int) - 1))=some b from rfl,ob_some,From_spec (by unfold Short;omega) (by unfold Short;omega) (by omega) (by omega) (by omega),ob_some,(pl1_spec h.gb h.gd h.bb hk).1]
theorem in_0:at? [a,b] (0:Int)=some a:=rfl
theorem in_1:at? [a,b] (wk .i64 ((([a,b]:List T_Tensor).length:Int) - 1))=some b:=rfl
theorem rd{α:Type}{l:List α}{j:Nat}{z:α}(h:j<l.length):at? l (j:Int)=some (l.getD j z):=by
  rw[at?_nat,List.getD_eq_getElem?_getD,List.getElem?_eq_getElem h];rfl
theorem rdF_a(h:Two fu a b d)(ht:a.fType=1)(hk:(k:Int)<prod d):at? a.fF ((pl1 a.fDims d k:Nat):Int)=some (a.fF.getD (pl1 a.fDims d k) 0):=
  rd (by have:=(pl1_spec h.ga h.gd h.ba hk).2;have:=h.la.1;rw[if_pos ht]at this;omega)
theorem rdF_b(h:Two fu a b d)(ht:b.fType=1)(hk:(k:Int)<prod d):at? b.fF ((pl1 b.fDims d k:Nat):Int)=some (b.fF.getD (pl1 b.fDims d k) 0):=
  rd (by have:=(pl1_spec h.gb h.gd h.bb hk).2;have:=h.lb.1;rw[if_pos ht]at this;omega)
theorem rdI_a(h:Two fu a b d)(ht:a.fType=7)(hk:(k:Int)<prod d):at? a.fI ((pl1 a.fDims d k:Nat):Int)=some (a.fI.getD (pl1 a.fDims d k) 0):=
  rd (by have:=(pl1_spec h.ga h.gd h.ba hk).2;have:=h.la.2.1;rw[if_pos ht]at this;omega)
theorem rdI_b(h:Two fu a b d)(ht:b.fType=7)(hk:(k:Int)<prod d):at? b.fI ((pl1 b.fDims d k:Nat):Int)=some (b.fI.getD (pl1 b.fDims d k) 0):=
  rd (by have:=(pl1_spec h.gb h.gd h.bb hk).2;have:=h.lb.2.1;rw[if_pos ht]at this;omega)
theorem rdB_a(h:Two fu a b d)(ht:a.fType=9)(hk:(k:Int)<prod d):at? a.fB ((pl1 a.fDims d k:Nat):Int)=some (a.fB.getD (pl1 a.fDims d k) false):=
  rd (by have:=(pl1_spec h.ga h.gd h.ba hk).2;have:=h.la.2.2;rw[if_pos ht]at this;omega)
theorem rdB_b(h:Two fu a b d)(ht:b.fType=9)(hk:(k:Int)<prod d):at? b.fB ((pl1 b.fDims d k:Nat):Int)=some (b.fB.getD (pl1 b.fDims d k) false):=
  rd (by have:=(pl1_spec h.gb h.gd h.bb hk).2;have:=h.lb.2.2;rw[if_pos ht]at this;omega)
end
end Go.Av
namespace Go.Av
theorem u64_eq{x:Int}(h0:0≤x)(h1:x<18446744073709551616):wk .u64 x=x:=by
  have:wk .u64 x=x%18446744073709551616:=by simp[wk,IntKind.wrap,IntKind.signed,IntKind.bits]
  rw[this,Int.emod_eq_of_lt h0 h1]
theorem u32_eq{x:Int}(h0:0≤x)(h1:x<4294967296):wk .u32 x=x:=by
  have:wk .u32 x=x%4294967296:=by simp[wk,IntKind.wrap,IntKind.signed,IntKind.bits]
  rw[this,Int.emod_eq_of_lt h0 h1]
theorem two_mono{i j:Nat}(h:i<=j):(2:Nat) ^ i<=2 ^ j:=Nat.pow_le_pow_right (by decide) h
theorem min64{k:Nat}(hk:k<=64):min ((k:Nat):Int).toNat IntKind.u64.bits=k:=by simp[IntKind.bits];omega
theorem two_cast(k:Nat):((2 ^ k:Nat):Int)=(2:Int) ^ k:=by rw[Int.natCast_pow];rfl
theorem shr_at{a n:Nat}:(a:Int).fdiv ((2:Int) ^ n)=((a / 2 ^ n:Nat):Int):=by
  rw[← two_cast,Int.fdiv_eq_ediv_of_nonneg _ (Int.natCast_nonneg _)]
  exact(Int.natCast_ediv a (2 ^ n)).symm
theorem pow_big{a k:Nat}{b:Nat}(ha:a<2 ^ b)(hk:b<=k):a / 2 ^ k=0:=Nat.div_eq_of_lt (Nat.lt_of_lt_of_le ha (two_mono hk))
theorem shr_nat{a k:Nat}(h:a<18446744073709551616):shrk .u64 (a:Int) (k:Int)=((a / 2 ^ k:Nat):Int):=by
  unfold shrk
  rw[shr_at]
  by_cases hk:k<=64
  · rw[min64 hk]
  · rw[show min ((k:Nat):Int).toNat IntKind.u64.bits=64 by simp[IntKind.bits];omega,pow_big (b:=64) (by simpa using h) (Nat.le_refl _),pow_big (b:=64) (by simpa using h) (by omega)]
def lenOk(T:ByteArray):Bool:=(List.range 256).all fun i=>match sat? T (i:Int)with
  |some n=>decide (0<=n)&&decide (n<=8)&&decide (i<2 ^ n.toNat)&&(decide (n=0) || decide (2 ^ (n.toNat - 1)<=i))
  |none=>false
theorem lenOk_spec{T:ByteArray}(h:lenOk T=true){i:Nat}(hi:i<256): ∃ n:Nat,sat? T (i:Int)=some (n:Int)∧n≤8∧i<2 ^ n∧(n=0∨2 ^ (n - 1)≤i):=by
  have:=List.all_eq_true.1 h i (List.mem_range.2 hi)
  split at this
  · rename_i n hn
    simp only[Bool.and_eq_true,decide_eq_true_eq,Bool.or_eq_true]at this
    obtain⟨⟨⟨a,b⟩,c⟩,d⟩:=this
    refine⟨n.toNat,by rw[hn,Int.toNat_of_nonneg a],by omega,c,?_⟩
    rcases d with d|d
    · exact .inl (by omega)
    · exact .inr d
  · cases this
def Bits(x n:Nat):Prop:=x<2 ^ n/\(n=0∨2 ^ (n - 1)<=x)
theorem Bits.shift{x n k:Nat}(h:Bits (x / 2 ^ k) n)(h0:2 ^ k≤x):Bits x (k+n):=by
  have hk:0<2 ^ k:=Nat.pos_of_ne_zero (by simp)
  obtain⟨h1,h2⟩:=h
  have h3:1<=x / 2 ^ k:=(Nat.le_div_iff_mul_le hk).2 (by omega)
  refine⟨?_,.inr ?_⟩
  · rw[Nat.pow_add]
    have h:=(Nat.div_lt_iff_lt_mul hk).1 h1
    rw[Nat.mul_comm];exact h
  · rcases h2 with h2|h2
    · subst h2;simp at h1;omega
    · by_cases hn:n=0
      · subst hn;simp at h1;omega
      · rw[show k+n - 1=(n - 1)+k by omega,Nat.pow_add]
        exact(Nat.le_div_iff_mul_le hk).1 h2
theorem Len_k2{fu x c:Nat}(hx:x<65536)(hc:c≤1000): ∃ n:Nat,math_bits_Len64.k2 fu (x:Int) (c:Int)=some ((c+n:Nat):Int)∧Bits x n∧n≤16:=by
  unfold math_bits_Len64.k2
  generalize hT:(ByteArray.mk _:ByteArray)=T
  have hok:lenOk T=true:=by subst hT;kernel_rfl
  clear hT
  by_cases h:256<=x
  · rw[if_pos (by omega),show((8:Int))=((8:Nat):Int)from rfl,shr_nat (by omega)]
    have h8:x / 2 ^ 8<256:=by omega
    obtain⟨n,e1,e2,e3,e4⟩:=lenOk_spec hok h8
    have hw:wk .u8 ((x / 2 ^ 8:Nat):Int)=((x / 2 ^ 8:Nat):Int):=by
      have: ∀ z:Int,wk .u8 z=z%256:=λz=>by simp[wk,IntKind.wrap,IntKind.signed,IntKind.bits]
      rw[this,Int.emod_eq_of_lt (by omega) (by omega)]
    rw[hw,e1,ob_some]
    refine⟨8+n,?_,Bits.shift ⟨e3,e4⟩ (by omega),by omega⟩
    rw[wk_eq (x:=((c:Nat):Int)+((8:Nat):Int)) (by omega) (by omega),wk_eq (x:=((n:Nat):Int)) (by omega) (by omega),wk_eq (by omega) (by omega)]
    congr 1
    omega
  · rw[if_neg (by omega)]
    have hw:wk .u8 ((x:Nat):Int)=((x:Nat):Int):=by
      have: ∀ z:Int,wk .u8 z=z%256:=λz=>by simp[wk,IntKind.wrap,IntKind.signed,IntKind.bits]
      rw[this,Int.emod_eq_of_lt (by omega) (by omega)]
    obtain⟨n,e1,e2,e3,e4⟩:=lenOk_spec hok (i:=x) (by omega)
    refine⟨n,?_,⟨e3,e4⟩,by omega⟩
    rw[hw,e1,ob_some,wk_eq (x:=((n:Nat):Int)) (by omega) (by omega),wk_eq (by omega) (by omega)]
    congr 1
theorem Len_k1{fu x c:Nat}(hx:x<4294967296)(hc:c≤100): ∃ n:Nat,math_bits_Len64.k1 fu (x:Int) (c:Int)=some ((c+n:Nat):Int)∧Bits x n∧n≤32:=by
  unfold math_bits_Len64.k1;try unfold jn
  by_cases h:65536<=x
  · rw[if_pos (by omega),show((16:Int))=((16:Nat):Int)from rfl,shr_nat (by omega)]
    obtain⟨n,e1,e2,e3⟩:=Len_k2 (fu:=fu) (x:=x / 2 ^ 16) (c:=c+16) (by omega) (by omega)
    refine⟨16+n,?_,e2.shift (by omega),by omega⟩
    rw[wk_eq (x:=((c:Nat):Int)+((16:Nat):Int)) (by omega) (by omega),show((c:Nat):Int)+((16:Nat):Int)=((c+16:Nat):Int)by omega,e1]
    congr 1;omega
  · rw[if_neg (by omega)]
    obtain⟨n,e1,e2,e3⟩:=Len_k2 (fu:=fu) (x:=x) (c:=c) (by omega) (by omega)
    exact⟨n,e1,e2,by omega⟩
theorem Len64_spec{fu x:Nat}(hx:x<18446744073709551616): ∃ n:Nat,math_bits_Len64 fu (x:Int)=some (n:Int)∧Bits x n∧n≤64:=by
  unfold math_bits_Len64;try unfold jn
  by_cases h:4294967296<=x
  · rw[if_pos (by omega),show((32:Int))=((32:Nat):Int)from rfl,shr_nat (by omega)]
    obtain⟨n,e1,e2,e3⟩:=Len_k1 (fu:=fu) (x:=x / 2 ^ 32) (c:=32) (by omega) (by omega)
    exact⟨32+n,e1,e2.shift (by omega),by omega⟩
  · rw[if_neg (by omega),show((0:Int))=((0:Nat):Int)from rfl]
    obtain⟨n,e1,e2,e3⟩:=Len_k1 (fu:=fu) (x:=x) (c:=0) (by omega) (by omega)
    exact⟨n,by rw[e1];congr 1;omega,e2,by omega⟩
theorem sign_tot{fu:Nat}{b:Bool}: ∃ r,soft_sign fu b=some r:=by unfold soft_sign;split <;> exact⟨_,rfl⟩
theorem tiny_tot{fu:Nat}{b:Bool}: ∃ r,soft_tiny fu 0 b=some r:=by
  obtain⟨s,hs⟩:=sign_tot (fu:=fu) (b:=b)
  unfold soft_tiny soft_outwards
  rw[chk_pos rfl,chk_pos rfl,ob_some,hs,ob_some]
  exact⟨_,rfl⟩
theorem huge_tot{fu:Nat}{b:Bool}: ∃ r,soft_huge fu 0 b=some r:=by
  obtain⟨s,hs⟩:=sign_tot (fu:=fu) (b:=b)
  unfold soft_huge soft_huge.k1;try unfold jn
  rw[chk_pos rfl,hs,ob_some]
  exact⟨_,rfl⟩
theorem k3_tot{fu:Nat}{a:Bool}{b c d:Int}: ∃ r,soft_Round.k3 fu a b c d=some r:=by
  obtain⟨s,hs⟩:=sign_tot (fu:=fu) (b:=a)
  obtain⟨u,hu⟩:=huge_tot (fu:=fu) (b:=a)
  unfold soft_Round.k3
  rw[hs,hu]
  simp only[ob_some]
  repeat' split
  all_goals exact⟨_,rfl⟩
theorem k2_tot{fu:Nat}{a e f g:Bool}{b c d:Int}: ∃ r,soft_Round.k2 fu a b c d e f g=some r:=by
  unfold soft_Round.k2;try unfold jn
  repeat' split
  all_goals exact k3_tot
theorem k4_tot{fu:Nat}{a e f:Bool}{b c d:Int}: ∃ r,soft_Round.k4 fu a b c e d f=some r:=by
  unfold soft_Round.k4
  repeat' split
  all_goals exact k2_tot
theorem k1_tot{fu:Nat}{a e:Bool}{b c:Int}{n:Nat}(hn:n≤64)(hb: -300≤b)(hb2:b≤200): ∃ r,soft_Round.k1 fu a b c e (n:Int)=some r:=by
  unfold soft_Round.k1;try unfold jn
  have e1:wk .i64 ((n:Int) - 24)=(n:Int) - 24:=wk_eq (by omega) (by omega)
  have e2:wk .i64 (-149 - b)= -149 - b:=wk_eq (by omega) (by omega)
  rw[e1,e2]
  have h1:(n:Int) - 24<=imax ((n:Int) - 24) (-149 - b):=by unfold imax;split <;> omega
  have h2:imax ((n:Int) - 24) (-149 - b)<=151:=by unfold imax;split <;> omega
  generalize imax ((n:Int) - 24) (-149 - b)=m at h1 h2
  split
  · rw[chk_pos (by rw[wk_eq (by omega) (by omega)];omega)]
    exact k2_tot
  · split
    · exact k2_tot
    · rw[chk_pos (by omega),chk_pos (by rw[wk_eq (by omega) (by omega)];omega)]
      repeat' split
      all_goals exact k4_tot
theorem Round_tot{fu:Nat}{a e:Bool}{b c:Int}(h0:0≤c)(h1:c<18446744073709551616): ∃ r,soft_Round fu 0 a b c e=some r:=by
  obtain⟨k,rfl⟩:=Int.eq_ofNat_of_zero_le h0
  obtain⟨n,hn,_,hn2⟩:=Len64_spec (fu:=fu) (x:=k) (by omega)
  obtain⟨s,hs⟩:=sign_tot (fu:=fu) (b:=a)
  obtain⟨u,hu⟩:=huge_tot (fu:=fu) (b:=a)
  obtain⟨v,hv⟩:=tiny_tot (fu:=fu) (b:=a)
  unfold soft_Round;try unfold jn
  rw[chk_pos rfl,hn,ob_some,hs,hu,hv]
  simp only[ob_some]
  split
  · split <;> exact⟨_,rfl⟩
  · split
    · exact⟨_,rfl⟩
    · split
      · exact⟨_,rfl⟩
      · exact k1_tot hn2 (by omega) (by omega)
theorem wk_u64(x:Int):0≤wk .u64 x∧wk .u64 x<18446744073709551616:=by
  have:wk .u64 x=x%18446744073709551616:=by simp[wk,IntKind.wrap,IntKind.signed,IntKind.bits]
  rw[this];omega
theorem open_tot{fu:Nat}{x:Int}: ∃ r,soft_open fu x=some r∧ -150≤r.fexp∧r.fexp≤200:=by
  have hb:0≤band .u32 (shrk .u32 x 23) 255∧band .u32 (shrk .u32 x 23) 255≤255:=by
    unfold band
    rw[show IntKind.u32.bits=32 from rfl,BitVec.toNat_and]
    have h:(BitVec.ofInt 32 (shrk .u32 x 23)).toNat &&& (BitVec.ofInt 32 255).toNat<=255:=Nat.le_trans Nat.and_le_right (by decide)
    have hw:=u32_eq (x:=(((BitVec.ofInt 32 (shrk .u32 x 23)).toNat &&& (BitVec.ofInt 32 255).toNat:Nat):Int)) (by omega) (by omega)
    unfold wk at hw
    rw[hw]
    omega
  unfold soft_open
  rw[wk_eq (x:=band .u32 (shrk .u32 x 23) 255) (by omega) (by omega)]
  generalize band .u32 (shrk .u32 x 23) 255=q at hb
  split
  · exact⟨_,rfl,by show(-150:Int)<=0;omega,by show(0:Int)<=200;omega⟩
  · split
    · exact⟨_,rfl,by show(-150:Int)<= -149;omega,by show(-149:Int)<=200;omega⟩
    · refine⟨_,rfl,?_,?_⟩
      · show -150≤wk .i64 (q - 150)
        rw[wk_eq (by omega) (by omega)];omega
      · show wk .i64 (q - 150)≤200
        rw[wk_eq (by omega) (by omega)];omega
theorem Mul_tot{fu:Nat}{x y:Int}: ∃ r,soft_Mul fu x y=some r:=by
  obtain⟨a,ha,_,_⟩:=open_tot (fu:=fu) (x:=x)
  obtain⟨b,hb,_,_⟩:=open_tot (fu:=fu) (x:=y)
  obtain⟨s,hs⟩:=sign_tot (fu:=fu) (b:= !(a.fneg==b.fneg))
  obtain⟨r,hr⟩:=Round_tot (fu:=fu) (a:= !(a.fneg==b.fneg)) (e:=false) (b:=wk .i64 (a.fexp+b.fexp)) (wk_u64 (a.fsig*b.fsig)).1 (wk_u64 _).2
  unfold soft_Mul soft_MulBy soft_MulBy.k1;try unfold jn
  rw[chk_pos rfl,ha,ob_some,hb,ob_some,hs,hr]
  simp only[ob_some]
  repeat' split
  all_goals exact⟨_,rfl⟩
theorem nought_tot{fu:Nat}: ∃ r,soft_nought fu 0=some r:=by
  obtain⟨s,hs⟩:=sign_tot (fu:=fu) (b:=decide ((0:Int)=2))
  unfold soft_nought
  rw[chk_pos rfl,hs,ob_some]
  exact⟨_,rfl⟩
theorem a3_tot{fu:Nat}{a b c:Bool}{x y z:Int}: ∃ r,soft_AddBy.k3 fu a b x y z c=some r:=by
  obtain⟨s,hs⟩:=nought_tot (fu:=fu)
  obtain⟨r1,h1⟩:=Round_tot (fu:=fu) (a:=a) (e:=c) (b:=x) (wk_u64 (y+z)).1 (wk_u64 _).2
  obtain⟨r2,h2⟩:=Round_tot (fu:=fu) (a:=a) (e:=true) (b:=x) (wk_u64 (wk .u64 (y - z) - 1)).1 (wk_u64 _).2
  obtain⟨r3,h3⟩:=Round_tot (fu:=fu) (a:=a) (e:=false) (b:=x) (wk_u64 (y - z)).1 (wk_u64 _).2
  obtain⟨r4,h4⟩:=Round_tot (fu:=fu) (a:=b) (e:=false) (b:=x) (wk_u64 (z - y)).1 (wk_u64 _).2
  unfold soft_AddBy.k3
  rw[hs,h1,h2,h3,h4]
  simp only[ob_some]
  repeat' split
  all_goals exact⟨_,rfl⟩
theorem a2_tot{fu:Nat}{a b:Bool}{x y z w:Int}(h:z≤x)(h1: -1000≤z)(h2:x≤1000): ∃ r,soft_AddBy.k2 fu a x y b z w=some r:=by
  unfold soft_AddBy.k2;try unfold jn
  rw[wk_eq (x:=x - z) (by omega) (by omega)]
  split
  · rw[chk_pos (by omega)];exact a3_tot
  · rw[chk_pos (by rw[wk_eq (by omega) (by omega)];omega)];exact a3_tot
theorem a1_tot{fu:Nat}{p q:T_soft_number}(h1: -150≤p.fexp)(h2:p.fexp≤200)(h3: -150≤q.fexp)(h4:q.fexp≤200): ∃ r,soft_AddBy.k1 fu p q=some r:=by
  unfold soft_AddBy.k1;try unfold jn
  split
  · exact a2_tot (by omega) (by omega) (by omega)
  · exact a2_tot (by omega) (by omega) (by omega)
theorem Add_tot{fu:Nat}{x y:Int}: ∃ r,soft_Add fu x y=some r:=by
  obtain⟨a,ha,a1,a2⟩:=open_tot (fu:=fu) (x:=x)
  obtain⟨b,hb,b1,b2⟩:=open_tot (fu:=fu) (x:=y)
  obtain⟨s,hs⟩:=nought_tot (fu:=fu)
  obtain⟨r,hr⟩:=a1_tot (fu:=fu) a1 a2 b1 b2
  unfold soft_Add soft_AddBy;try unfold jn
  rw[chk_pos rfl,ha,ob_some,hb,ob_some,hs,hr]
  simp only[ob_some]
  repeat' split
  all_goals exact⟨_,rfl⟩
theorem Mul_fu{fu:Nat}{x y:Int}:soft_Mul fu x y=soft_Mul 0 x y:=rfl
theorem Add_fu{fu:Nat}{x y:Int}:soft_Add fu x y=soft_Add 0 x y:=rfl
def mulV(x y:Int):Int:=(soft_Mul 0 x y).getD 0
def addV(x y:Int):Int:=(soft_Add 0 x y).getD 0
theorem Mul_spec{fu:Nat}{x y:Int}:soft_Mul fu x y=some (mulV x y):=by
  rw[Mul_fu];unfold mulV
  obtain⟨r,hr⟩:=Mul_tot (fu:=0) (x:=x) (y:=y)
  rw[hr];rfl
theorem Add_spec{fu:Nat}{x y:Int}:soft_Add fu x y=some (addV x y):=by
  rw[Add_fu];unfold addV
  obtain⟨r,hr⟩:=Add_tot (fu:=0) (x:=x) (y:=y)
  rw[hr];rfl
end Go.Av
namespace Go.Av
theorem band_rng{x m:Int}(h0:0≤m)(h1:m<4294967296):0≤band .u32 x m∧band .u32 x m≤m:=by
  unfold band
  rw[show IntKind.u32.bits=32 from rfl,BitVec.toNat_and]
  have e:(BitVec.ofInt 32 m).toNat=m.toNat:=by rw[BitVec.toNat_ofInt];omega
  have h:(BitVec.ofInt 32 x).toNat &&& (BitVec.ofInt 32 m).toNat<=m.toNat:=by rw[e];exact Nat.and_le_right
  have hw:=u32_eq (x:=(((BitVec.ofInt 32 x).toNat &&& (BitVec.ofInt 32 m).toNat:Nat):Int)) (by omega) (by omega)
  unfold wk at hw
  rw[hw]
  omega
theorem bor_rng{a:Int}(h0:0≤a)(h1:a≤8388607):0≤bor .u64 a 8388608∧bor .u64 a 8388608<16777216:=by
  unfold bor
  rw[show IntKind.u64.bits=64 from rfl,BitVec.toNat_or]
  have e:(BitVec.ofInt 64 a).toNat=a.toNat:=by rw[BitVec.toNat_ofInt];omega
  have e2:(BitVec.ofInt 64 8388608).toNat=8388608:=by decide
  have h:(BitVec.ofInt 64 a).toNat ||| (BitVec.ofInt 64 8388608).toNat<2 ^ 24:=by
    rw[e,e2];exact Nat.or_lt_two_pow (by omega) (by decide)
  have hw:=u64_eq (x:=(((BitVec.ofInt 64 a).toNat ||| (BitVec.ofInt 64 8388608).toNat:Nat):Int)) (by omega) (by omega)
  unfold wk at hw
  rw[hw]
  omega
theorem open_sg{fu:Nat}{x:Int}: ∃ r,soft_open fu x=some r∧0≤r.fsig∧r.fsig<16777216:=by
  obtain⟨b0,b1⟩:=band_rng (x:=x) (m:=8388607) (by decide) (by decide)
  unfold soft_open
  rw[u64_eq (x:=band .u32 x 8388607) b0 (by omega)]
  split
  · exact⟨_,rfl,Int.le_refl _,by show(0:Int)<16777216;decide⟩
  · split
    · exact⟨_,rfl,b0,by show band .u32 x 8388607<_;omega⟩
    · exact⟨_,rfl,(bor_rng b0 b1).1,(bor_rng b0 b1).2⟩
theorem full_tot{fu:Nat}{p:T_soft_number}(h0:0≤p.fsig)(h1:p.fsig<16777216)(hz:p.fsig≠0): ∃ r,soft_number_full fu p=some r∧r.fsig≠0:=by
  obtain⟨k,hk⟩:=Int.eq_ofNat_of_zero_le h0
  obtain⟨n,hn,⟨hb1,hb2⟩,_⟩:=Len64_spec (fu:=fu) (x:=k) (by omega)
  have h24:n≤24:=by
    rcases hb2 with h|h
    · omega
    · rcases Nat.lt_or_ge 24 n with hh|hh
      · have:=two_mono (i:=24) (j:=n - 1) (by omega)
        have e:(2:Nat) ^ 24=16777216:=by decide
        omega
      · exact hh
  unfold soft_number_full
  rw[hk,hn,ob_some,wk_eq (x:=24 - (n:Int)) (by omega) (by omega),chk_pos (by omega)]
  refine⟨_,rfl,?_⟩
  show shlk .u64 (k:Int) (24 - (n:Int))≠0
  have hm:(24 - (n:Int))=((24 - n:Nat):Int):=by omega
  unfold shlk
  rw[hm,min64 (by omega),← two_cast,← Int.natCast_mul]
  have hlt:k*2 ^ (24 - n)<2 ^ 24:=by
    have:=Nat.mul_lt_mul_of_pos_right hb1 (Nat.pow_pos (n:=24 - n) (show 0<2 by decide))
    rw[← Nat.pow_add,show n+(24 - n)=24 by omega]at this
    exact this
  have hpos:0<k*2 ^ (24 - n):=Nat.mul_pos (by omega) (Nat.pow_pos (by decide))
  have e:(2:Nat) ^ 24=16777216:=by decide
  have hw:=u64_eq (x:=((k*2 ^ (24 - n):Nat):Int)) (by omega) (by omega)
  unfold wk at hw
  rw[hw]
  omega
theorem d2_tot{fu:Nat}{p q:T_soft_number}(h0:0≤p.fsig)(h1:p.fsig<16777216)(hz:p.fsig≠0)(g0:0≤q.fsig)(g1:q.fsig<16777216)(gz:q.fsig≠0): ∃ r,soft_DivBy.k2 fu p q=some r:=by
  obtain⟨a,ha,_⟩:=full_tot (fu:=fu) (p:=⟨p.fneg,false,false,p.fexp,p.fsig⟩) h0 h1 hz
  obtain⟨b,hb,hb2⟩:=full_tot (fu:=fu) (p:=⟨q.fneg,false,false,q.fexp,q.fsig⟩) g0 g1 gz
  unfold soft_DivBy.k2
  rw[ha,ob_some,hb,ob_some,chk_pos hb2]
  obtain⟨r,hr⟩:=Round_tot (fu:=fu) (a:= !(p.fneg==q.fneg)) (e:= !(decide ((Int.tmod (shlk .u64 a.fsig 38) b.fsig)=0))) (b:=wk .i64 ((wk .i64 (a.fexp - b.fexp)) - 38)) (wk_u64 (Int.tdiv (shlk .u64 a.fsig 38) b.fsig)).1 (wk_u64 _).2
  rw[hr]
  exact⟨_,rfl⟩
theorem d1_tot{fu:Nat}{p q:T_soft_number}{x7 x6:Bool}{x8 x9:Bool}(h0:0≤p.fsig)(h1:p.fsig<16777216)(hz:x8=false→x6=false→p.fsig≠0)(g0:0≤q.fsig)(g1:q.fsig<16777216)(gz:x9=false→x7=false→q.fsig≠0): ∃ r,soft_DivBy.k1 fu p q x6 x7 x8 x9=some r:=by
  obtain⟨s,hs⟩:=sign_tot (fu:=fu) (b:= !(p.fneg==q.fneg))
  unfold soft_DivBy.k1;try unfold jn
  rw[hs]
  simp only[ob_some]
  cases x6 <;> cases x7 <;> cases x8 <;> cases x9 <;> simp only[if_true,if_false,reduceCtorEq]
  all_goals repeat' split
  all_goals first|exact⟨_,rfl⟩|exact d2_tot h0 h1 (hz rfl rfl) g0 g1 (gz rfl rfl)
theorem Div_tot{fu:Nat}{x y:Int}: ∃ r,soft_Div fu x y=some r:=by
  obtain⟨p,hp,p0,p1⟩:=open_sg (fu:=fu) (x:=x)
  obtain⟨q,hq,q0,q1⟩:=open_sg (fu:=fu) (x:=y)
  have hk: ∃ r,soft_DivBy fu 0 x y=some r:=by
    unfold soft_DivBy;try unfold jn
    rw[chk_pos rfl,hp,ob_some,hq,ob_some]
    split
    · split
      · exact d1_tot p0 p1 (by simp) q0 q1 (by simp)
      · exact d1_tot p0 p1 (by simp) q0 q1 (by simp)
    · split
      · exact d1_tot p0 p1 (by simp) q0 q1 (by simp)
      · exact d1_tot p0 p1 (by simp) q0 q1 (by simp)
  obtain⟨r,hr⟩:=hk
  unfold soft_Div
  rw[hr]
  exact⟨_,rfl⟩
end Go.Av
set_option linter.unusedSimpArgs false
namespace Go.Av
theorem shr_nat32{a k:Nat}(h:a<4294967296):shrk .u32 (a:Int) (k:Int)=((a / 2 ^ k:Nat):Int):=by
  unfold shrk
  rw[shr_at]
  by_cases hk:k<=32
  · rw[show min ((k:Nat):Int).toNat IntKind.u32.bits=k by simp[IntKind.bits];omega]
  · rw[show min ((k:Nat):Int).toNat IntKind.u32.bits=32 by simp[IntKind.bits];omega,pow_big (b:=32) (by simpa using h) (Nat.le_refl _),pow_big (b:=32) (by simpa using h) (by omega)]
theorem bv_nat{n a:Nat}(h:a<2 ^ n):(BitVec.ofInt n (a:Int)).toNat=a:=by
  rw[BitVec.toNat_ofInt]
  have:((a:Int)%((2 ^ n:Nat):Int))=a:=Int.emod_eq_of_lt (by omega) (by omega)
  rw[this];rfl
theorem and_nat32{a b:Nat}(ha:a<4294967296)(hb:b<4294967296):band .u32 (a:Int) (b:Int)=((a &&& b:Nat):Int):=by
  unfold band
  rw[show IntKind.u32.bits=32 from rfl,BitVec.toNat_and,bv_nat (by simpa using ha),bv_nat (by simpa using hb)]
  have:a &&& b<=a:=Nat.and_le_left
  exact u32_eq (by omega) (by omega)
theorem mask_nat32{a j:Nat}(hj:j≤32)(ha:a<4294967296):band .u32 (a:Int) ((2 ^ j - 1:Nat):Int)=((a%2 ^ j:Nat):Int):=by
  have:(2:Nat) ^ j<=2 ^ 32:=two_mono hj
  rw[and_nat32 ha (by omega),Nat.and_two_pow_sub_one_eq_mod]
def Word(x:Int):Prop:=0<=x/\x<4294967296
def nanV(x:Int):Bool:=(soft_NaN 0 x).getD false
def plcV(x:Int):Int:=(soft_place 0 x).getD 0
theorem NaN_spec{fu:Nat}{x:Int}:soft_NaN fu x=some (nanV x):=rfl
theorem place_spec{fu:Nat}{x:Int}:soft_place fu x=some (plcV x):=by
  unfold plcV soft_place soft_Abs
  simp only[ob_some]
  split <;> rfl
def eqV(x y:Int):Bool:= !nanV x&& !nanV y&&decide (plcV x=plcV y)
theorem Equal_f{fu:Nat}{x y:Int}:soft_Equal fu x y=some (eqV x y):=by
  unfold soft_Equal eqV
  rw[NaN_spec,ob_some,NaN_spec,ob_some,place_spec,place_spec,ob_some,ob_some]
  cases nanV x <;> cases nanV y <;> simp
def lessV(x y:Int):Bool:= !nanV x&& !nanV y&&decide (plcV x<plcV y)
theorem Less_f{fu:Nat}{x y:Int}:soft_Less fu x y=some (lessV x y):=by
  unfold soft_Less lessV
  rw[NaN_spec,ob_some,NaN_spec,ob_some,place_spec,place_spec,ob_some,ob_some]
  cases nanV x <;> cases nanV y <;> simp
def minV(x y:Int):Int:=if nanV x || nanV y then 2143289344 else if plcV x=plcV y then bor .u32 x y else if plcV y<plcV x then y else x
def maxV(x y:Int):Int:=if nanV x || nanV y then 2143289344 else if plcV x=plcV y then band .u32 x y else if plcV x<plcV y then y else x
theorem Min_f{fu:Nat}{x y:Int}:soft_Min fu x y=some (minV x y):=by
  unfold soft_Min minV
  rw[NaN_spec,ob_some,NaN_spec,ob_some,Equal_f,ob_some,Less_f,ob_some]
  unfold eqV lessV
  cases nanV x <;> cases nanV y <;> by_cases h1:plcV x=plcV y <;> by_cases h2:plcV y<plcV x <;> simp[h1,h2]
theorem Max_f{fu:Nat}{x y:Int}:soft_Max fu x y=some (maxV x y):=by
  unfold soft_Max maxV
  rw[NaN_spec,ob_some,NaN_spec,ob_some,Equal_f,ob_some,Less_f,ob_some]
  unfold eqV lessV
  cases nanV x <;> cases nanV y <;> by_cases h1:plcV x=plcV y <;> by_cases h2:plcV x<plcV y <;> simp[h1,h2]
def cnV(x:Int):Int:=if nanV x=true then 2143289344 else x
theorem Cn_f{fu:Nat}{x:Int}:soft_Canon fu x=some (cnV x):=by
  unfold soft_Canon cnV
  rw[NaN_spec,ob_some]
  split <;> rfl
end Go.Av
set_option linter.unusedSimpArgs false
namespace Go.Av
theorem cloop_ex{τ β:Type}{body:(τ→Option β)→τ→Option β}(Inv:τ→Prop)(μ:τ→Nat)
    (h: ∀ s,Inv s-> ∀ next:τ->Option β,(∀ s',Inv s'->μ s'<μ s-> ∃ r,next s'=some r)-> ∃ r,body next s=some r): ∀ n s,Inv s->μ s<n-> ∃ r,cloop body n s=some r:=by
  intro n
  induction n with
  |zero=>intro s _ hm;omega
  | succ n ih=>
    intro s hs hm
    exact h s hs _ λs' h1 h2=>ih s' h1 (by omega)
theorem Neg_spec{fu:Nat}{x:Int}:soft_Neg fu x=some (bxor .u32 x 2147483648):=rfl
theorem AddBy_tot{fu:Nat}{x y:Int}: ∃ r,soft_AddBy fu 0 x y=some r:=by
  obtain⟨r,hr⟩:=Add_tot (fu:=fu) (x:=x) (y:=y)
  unfold soft_Add at hr
  cases h:soft_AddBy fu 0 x y with
  |none=>rw[h]at hr;cases hr
  |some q=>exact⟨q,rfl⟩
theorem Sub_tot{fu:Nat}{x y:Int}: ∃ r,soft_Sub fu x y=some r:=by
  unfold soft_Sub
  rw[Neg_spec,ob_some]
  obtain⟨r,hr⟩:=AddBy_tot (fu:=fu) (x:=x) (y:=bxor .u32 y 2147483648)
  rw[hr];exact⟨_,rfl⟩
theorem Abs_spec{fu:Nat}{x:Int}:soft_Abs fu x=some (bandn .u32 x 2147483648):=rfl
theorem Inf_spec{fu:Nat}{x:Int}:soft_Inf fu x=some (decide (bandn .u32 x 2147483648=2139095040)):=rfl
theorem ropen_tot{fu:Nat}{x:Int}: ∃ r,round_open fu x=some r∧ -149≤r.fexp∧r.fexp≤105∧0≤r.fsig∧r.fsig<16777216:=by
  obtain⟨a0,a1⟩:=band_rng (x:=shrk .u32 x 23) (m:=255) (by decide) (by decide)
  obtain⟨b0,b1⟩:=band_rng (x:=x) (m:=8388607) (by decide) (by decide)
  unfold round_open
  rw[wk_eq (x:=band .u32 (shrk .u32 x 23) 255) (by omega) (by omega),u64_eq (x:=band .u32 x 8388607) b0 (by omega),wk_eq (x:=band .u32 (shrk .u32 x 23) 255 - 150) (by omega) (by omega)]
  split
  · exact⟨_,rfl,by show(-149:Int)<= -149;decide,by show(-149:Int)<=105;decide,b0,by show band .u32 x 8388607<_;omega⟩
  · exact⟨_,rfl,by show -149<=band .u32 (shrk .u32 x 23) 255 - 150;omega,by show band .u32 (shrk .u32 x 23) 255 - 150<=105;omega,(bor_rng b0 b1).1,(bor_rng b0 b1).2⟩
theorem shr_rng{x k:Int}(h0:0≤x)(h1:x<18446744073709551616):0≤shrk .u64 x k∧shrk .u64 x k≤x:=by
  obtain⟨n,rfl⟩:=Int.eq_ofNat_of_zero_le h0
  unfold shrk
  rw[shr_at]
  exact⟨Int.natCast_nonneg _,by exact_mod_cast Nat.div_le_self _ _⟩
theorem E1_tot{fu:Nat}{a c:Bool}{b:Int}: ∃ r,round_Even_1 fu a b c=some r:=by
  unfold round_Even_1
  repeat' split
  all_goals exact⟨_,rfl⟩
theorem E3_tot{fu:Nat}{p:T_round_number}{c:Int}(h0:0≤c)(h1:c<18446744073709551616): ∃ r,round_Even.k3 fu p c=some r:=by
  unfold round_Even.k3
  obtain⟨r,hr⟩:=Round_tot (fu:=fu) (a:=p.fneg) (e:=false) (b:=0) h0 h1
  rw[hr];exact⟨_,rfl⟩
theorem E2_tot{fu:Nat}{p:T_round_number}{c:Int}(h0:0≤p.fsig)(h1:p.fsig<16777216): ∃ r,round_Even.k2 fu p c=some r:=by
  unfold round_Even.k2;try unfold jn
  obtain⟨b,hb⟩:=E1_tot (fu:=fu) (a:=p.fneg) (b:=c) (c:=decide ((band .u64 (shrk .u64 p.fsig (wk .i64 (0 - p.fexp))) 1)=1))
  obtain⟨s0,s1⟩:=shr_rng (x:=p.fsig) (k:=wk .i64 (0 - p.fexp)) h0 (by omega)
  rw[hb,ob_some]
  split
  · exact E3_tot (wk_u64 _).1 (wk_u64 _).2
  · exact E3_tot s0 (by omega)
theorem Even_tot{fu:Nat}{x:Int}: ∃ r,round_Even fu x=some r:=by
  obtain⟨p,hp,e0,e1,s0,s1⟩:=ropen_tot (fu:=fu) (x:=x)
  unfold round_Even;try unfold jn
  rw[NaN_spec,ob_some,hp,ob_some,Inf_spec,ob_some]
  split
  · exact⟨_,rfl⟩
  · split
    · exact⟨_,rfl⟩
    · split
      · exact⟨_,rfl⟩
      · rename_i hn
        split
        · exact⟨_,rfl⟩
        · unfold round_Even.k1;try unfold jn
          have hw:wk .i64 (0 - p.fexp)=0 - p.fexp:=wk_eq (by omega) (by omega)
          have hw2:wk .i64 (wk .i64 (0 - p.fexp) - 1)=0 - p.fexp - 1:=by rw[hw];exact wk_eq (by omega) (by omega)
          rw[chk_pos (by rw[hw];omega)]
          split
          · exact⟨_,rfl⟩
          · split
            · rw[chk_pos (by rw[hw2];omega)]
              split
              · exact E2_tot s0 s1
              · split
                · exact E2_tot s0 s1
                · exact E2_tot s0 s1
            · exact E2_tot s0 s1
theorem Scale_tot{fu:Nat}{x k:Int}: ∃ r,round_Scale fu x k=some r:=by
  obtain⟨p,hp,e0,e1,s0,s1⟩:=ropen_tot (fu:=fu) (x:=x)
  unfold round_Scale round_Scale.k1;try unfold jn
  obtain⟨r,hr⟩:=Round_tot (fu:=fu) (a:=p.fneg) (e:=false) (b:=wk .i64 (p.fexp+(imax (-1000) (imin k 1000)))) s0 (by omega)
  rw[NaN_spec,ob_some,hp,ob_some,Inf_spec,ob_some,hr]
  repeat' split
  all_goals exact⟨_,rfl⟩
theorem FromInt_tot{fu:Nat}{n:Int}: ∃ r,round_FromInt fu n=some r:=by
  have hk: ∃ r,round_FromIntBy fu 0 n=some r:=by
    unfold round_FromIntBy
    split
    · obtain⟨r,hr⟩:=Round_tot (fu:=fu) (a:=true) (e:=false) (b:=0) (wk_u64 (0 - wk .u64 n)).1 (wk_u64 _).2
      rw[hr];exact⟨_,rfl⟩
    · obtain⟨r,hr⟩:=Round_tot (fu:=fu) (a:=false) (e:=false) (b:=0) (wk_u64 n).1 (wk_u64 _).2
      rw[hr];exact⟨_,rfl⟩
  obtain⟨r,hr⟩:=hk
  unfold round_FromInt
  rw[hr]
  exact⟨_,rfl⟩
theorem T1_tot{fu:Nat}{p:T_round_number}{c:Int}: ∃ r,round_ToInt.k1 fu p c=some r:=by
  unfold round_ToInt.k1
  split <;> exact⟨_,rfl⟩
theorem ToInt_tot{fu:Nat}{x:Int}: ∃ r,round_ToInt fu x=some r:=by
  obtain⟨p,hp,e0,e1,s0,s1⟩:=ropen_tot (fu:=fu) (x:=x)
  unfold round_ToInt;try unfold jn
  rw[NaN_spec,ob_some,hp,ob_some,Abs_spec,ob_some]
  split
  · exact⟨_,rfl⟩
  · split
    · split <;> exact⟨_,rfl⟩
    · split
      · rename_i h
        rw[chk_pos h];exact T1_tot
      · rename_i h
        rw[chk_pos (by rw[wk_eq (by omega) (by omega)];omega)];exact T1_tot
theorem eparts_tot{fu:Nat}{x:Int}: ∃ r,elem_parts fu x=some r:=by
  unfold elem_parts elem_parts.k1;try unfold jn
  obtain⟨r,hr⟩:=Scale_tot (fu:=fu) (x:=x) (k:=24)
  rw[hr]
  split <;> exact⟨_,rfl⟩
def WideOK(w:T_round_wide):Prop:=(0<=w.fhigh/\w.fhigh<18446744073709551616)/\0<=w.flow/\w.flow<18446744073709551616
theorem shl_rng{x k:Int}:0<=shlk .u64 x k/\shlk .u64 x k<18446744073709551616:=wk_u64 _
theorem moved_tot{fu:Nat}{x k:Int}(h0:0≤x)(h1:x<18446744073709551616)(k0: -5000≤k)(k1:k≤5000): ∃ r,round_moved fu x k=some r∧WideOK r.1:=by
  have z:(0:Int)<18446744073709551616:=by decide
  unfold round_moved
  split
  · rw[chk_pos (by rw[wk_eq (by omega) (by omega)];omega)]
    exact⟨_,rfl,shl_rng,Int.le_refl _,z⟩
  · split
    · rw[chk_pos (by rw[wk_eq (by omega) (by omega)];omega),chk_pos (by omega)]
      have:=shr_rng (x:=x) (k:=wk .i64 (64 - k)) h0 h1
      exact⟨_,rfl,⟨this.1,by show shrk .u64 x _<_;omega⟩,shl_rng⟩
    · split
      · exact⟨_,rfl,⟨Int.le_refl _,z⟩,h0,h1⟩
      · split
        · exact⟨_,rfl,⟨Int.le_refl _,z⟩,Int.le_refl _,z⟩
        · rw[chk_pos (by rw[wk_eq (by omega) (by omega)];omega)]
          have:=shr_rng (x:=x) (k:=wk .i64 (0 - k)) h0 h1
          exact⟨_,rfl,⟨Int.le_refl _,z⟩,this.1,by show shrk .u64 x _<_;omega⟩
theorem plus_tot{fu:Nat}{a b:T_round_wide}(ha:WideOK a)(hb:WideOK b): ∃ r,round_wide_plus fu a b=some r∧WideOK r:=by
  obtain⟨⟨a1,a2⟩,a3,a4⟩:=ha
  obtain⟨⟨b1,b2⟩,b3,b4⟩:=hb
  unfold round_wide_plus
  rw[chk_pos ⟨a3,b3,by decide,by decide⟩,chk_pos ⟨a1,b1,by omega,by omega⟩]
  refine⟨_,rfl,⟨?_,?_⟩,?_,?_⟩
  · exact Int.emod_nonneg _ (by decide)
  · exact Int.emod_lt_of_pos _ (by decide)
  · exact Int.emod_nonneg _ (by decide)
  · exact Int.emod_lt_of_pos _ (by decide)
theorem minus_tot{fu:Nat}{a b:T_round_wide}(ha:WideOK a)(hb:WideOK b): ∃ r,round_wide_minus fu a b=some r∧WideOK r:=by
  obtain⟨⟨a1,a2⟩,a3,a4⟩:=ha
  obtain⟨⟨b1,b2⟩,b3,b4⟩:=hb
  unfold round_wide_minus
  rw[chk_pos ⟨a3,⟨b3,b4⟩,by decide,by decide⟩,chk_pos ⟨a1,⟨b1,b2⟩,by split <;> decide,by split <;> decide⟩]
  refine⟨_,rfl,⟨?_,?_⟩,?_,?_⟩
  · exact Int.emod_nonneg _ (by decide)
  · exact Int.emod_lt_of_pos _ (by decide)
  · exact Int.emod_nonneg _ (by decide)
  · exact Int.emod_lt_of_pos _ (by decide)
theorem bor_u64{a b:Int}:0<=bor .u64 a b/\bor .u64 a b<18446744073709551616:=wk_u64 _
theorem rounded_tot{fu:Nat}{a:T_round_wide}{n l:Bool}{e:Int}(ha:WideOK a): ∃ r,round_wide_rounded fu a 0 n e l=some r:=by
  obtain⟨⟨a1,a2⟩,a3,a4⟩:=ha
  obtain⟨k,hk⟩:=Int.eq_ofNat_of_zero_le a1
  obtain⟨m,hm,_,hm2⟩:=Len64_spec (fu:=fu) (x:=k) (by omega)
  unfold round_wide_rounded
  rw[hk,hm,ob_some]
  split
  · obtain⟨r,hr⟩:=Round_tot (fu:=fu) (a:=n) (e:=l) (b:=e) a3 a4
    rw[hr];exact⟨_,rfl⟩
  · rw[chk_pos (by rw[wk_eq (by omega) (by omega)];omega),chk_pos (by omega)]
    split
    · obtain⟨r,hr⟩:=Round_tot (fu:=fu) (a:=n) (e:=true) (b:=wk .i64 (e+m)) (bor_u64 (a:=shlk .u64 (k:Int) (wk .i64 (64 - m))) (b:=shrk .u64 a.flow m)).1 bor_u64.2
      rw[hr];exact⟨_,rfl⟩
    · obtain⟨r,hr⟩:=Round_tot (fu:=fu) (a:=n) (e:= !(decide ((shlk .u64 a.flow (wk .i64 (64 - m)))=0))) (b:=wk .i64 (e+m)) (bor_u64 (a:=shlk .u64 (k:Int) (wk .i64 (64 - m))) (b:=shrk .u64 a.flow m)).1 bor_u64.2
      rw[hr];exact⟨_,rfl⟩
theorem rsign_tot{fu:Nat}{b:Bool}: ∃ r,round_sign fu b=some r:=by
  unfold round_sign
  split <;> exact⟨_,rfl⟩
theorem less_tot{fu:Nat}{a b:T_round_wide}: ∃ r,round_wide_less fu a b=some r:=by
  unfold round_wide_less
  repeat' split
  all_goals exact⟨_,rfl⟩
theorem sum1_tot{fu:Nat}{p q:Bool}{e g s t:Int}(he: -2000≤e∧e≤2000)(hg: -2000≤g∧g≤2000)(hs:0≤s∧s<18446744073709551616)(ht:0≤t∧t<18446744073709551616): ∃ r,round_sum.k1 fu 0 p e s q g t=some r:=by
  obtain⟨k,hk⟩:=Int.eq_ofNat_of_zero_le hs.1
  obtain⟨m,hm,_,hm2⟩:=Len64_spec (fu:=fu) (x:=k) (by omega)
  unfold round_sum.k1
  rw[← hk]at hm
  have w1:wk .i64 (e+(m:Int))=e+m:=wk_eq (by omega) (by omega)
  have w2:wk .i64 (e+(m:Int) - 126)=e+m - 126:=wk_eq (by omega) (by omega)
  rw[hm,ob_some]
  simp only[w1,w2]
  have w3:wk .i64 (e - (e+(m:Int) - 126))=126 - m:=by rw[wk_eq (by omega) (by omega)];omega
  have w4:wk .i64 (g - (e+(m:Int) - 126))=g - (e+m - 126):=wk_eq (by omega) (by omega)
  rw[w3,w4]
  obtain⟨a,ha,oa⟩:=moved_tot (fu:=fu) (x:=s) (k:=126 - (m:Int)) hs.1 hs.2 (by omega) (by omega)
  obtain⟨b,hb,ob⟩:=moved_tot (fu:=fu) (x:=t) (k:=g - (e+(m:Int) - 126)) ht.1 ht.2 (by omega) (by omega)
  rw[ha,ob_some,hb,ob_some]
  have key: ∀ (w:T_round_wide) (n l:Bool) (x:Int),WideOK w→ ∃ r,((round_wide_rounded fu w 0 n x l).bind fun z=>some z)=some r:=fun w n l x hw=>by
    obtain⟨r,hr⟩:=rounded_tot (fu:=fu) (n:=n) (l:=l) (e:=x) hw
    rw[hr];exact⟨_,rfl⟩
  split
  · obtain⟨c,hc,oc⟩:=plus_tot (fu:=fu) oa ob
    rw[hc,ob_some];exact key _ _ _ _ oc
  · split
    · obtain⟨c,hc,oc⟩:=minus_tot (fu:=fu) oa ob
      obtain⟨d,hd,od⟩:=minus_tot (fu:=fu) (b:=⟨0,1⟩) oc ⟨⟨by decide,by decide⟩,by decide,by decide⟩
      rw[hc,ob_some,hd,ob_some];exact key _ _ _ _ od
    · split
      · obtain⟨c,hc⟩:=rsign_tot (fu:=fu) (b:=decide ((0:Int)=2))
        rw[hc];exact⟨_,rfl⟩
      · obtain⟨l,hl⟩:=less_tot (fu:=fu) (a:=a.1) (b:=b.1)
        rw[hl,ob_some]
        split
        · obtain⟨c,hc,oc⟩:=minus_tot (fu:=fu) ob oa
          rw[hc,ob_some];exact key _ _ _ _ oc
        · obtain⟨c,hc,oc⟩:=minus_tot (fu:=fu) oa ob
          rw[hc,ob_some];exact key _ _ _ _ oc
theorem sum_tot{fu:Nat}{p q:T_round_number}(he: -2000≤p.fexp∧p.fexp≤2000)(hg: -2000≤q.fexp∧q.fexp≤2000)(hs:0≤p.fsig∧p.fsig<18446744073709551616)(ht:0≤q.fsig∧q.fsig<18446744073709551616): ∃ r,round_sum fu 0 p q=some r:=by
  obtain⟨k,hk⟩:=Int.eq_ofNat_of_zero_le hs.1
  obtain⟨m,hm,_⟩:=Len64_spec (fu:=fu) (x:=k) (by omega)
  obtain⟨k',hk'⟩:=Int.eq_ofNat_of_zero_le ht.1
  obtain⟨m',hm',_⟩:=Len64_spec (fu:=fu) (x:=k') (by omega)
  rw[← hk]at hm
  rw[← hk']at hm'
  unfold round_sum;try unfold jn
  rw[hm',ob_some,hm,ob_some]
  split
  · exact sum1_tot hg he ht hs
  · exact sum1_tot he hg hs ht
theorem F2_tot{fu:Nat}{a b c:Int}: ∃ r,round_FmaBy.k2 fu 0 a b c=some r:=by
  obtain⟨x,hx,x0,x1,x2,x3⟩:=ropen_tot (fu:=fu) (x:=a)
  obtain⟨y,hy,y0,y1,y2,y3⟩:=ropen_tot (fu:=fu) (x:=b)
  obtain⟨z,hz,z0,z1,z2,z3⟩:=ropen_tot (fu:=fu) (x:=c)
  unfold round_FmaBy.k2;try unfold jn
  rw[hx,ob_some,hy,ob_some,hz,ob_some]
  have w:wk .i64 (x.fexp+y.fexp)=x.fexp+y.fexp:=wk_eq (by omega) (by omega)
  have k3: ∃ r,round_FmaBy.k3 fu 0 a b x y z=some r:=by
    unfold round_FmaBy.k3
    obtain⟨r,hr⟩:=sum_tot (fu:=fu) (p:=⟨!(decide ((shrk .u32 a 31)=(shrk .u32 b 31))),wk .i64 (x.fexp+y.fexp),wk .u64 (x.fsig*y.fsig)⟩) (q:=z) ⟨by show -2000<=wk .i64 (x.fexp+y.fexp);omega,by show wk .i64 (x.fexp+y.fexp)<=2000;omega⟩ ⟨by omega,by omega⟩ ⟨(wk_u64 _).1,(wk_u64 _).2⟩ ⟨z2,by omega⟩
    rw[hr];exact⟨_,rfl⟩
  split
  · split
    · split
      · exact⟨_,rfl⟩
      · obtain⟨r,hr⟩:=rsign_tot (fu:=fu) (b:=decide ((0:Int)=2))
        rw[hr];exact⟨_,rfl⟩
    · exact⟨_,rfl⟩
  · split
    · obtain⟨r,hr⟩:=Round_tot (fu:=fu) (a:= !(decide ((shrk .u32 a 31)=(shrk .u32 b 31)))) (e:=false) (b:=wk .i64 (x.fexp+y.fexp)) (wk_u64 (x.fsig*y.fsig)).1 (wk_u64 _).2
      rw[hr];exact⟨_,rfl⟩
    · exact k3
theorem F1_tot{fu:Nat}{a b c:Int}{m:Bool}: ∃ r,round_FmaBy.k1 fu 0 a b c m=some r:=by
  unfold round_FmaBy.k1;try unfold jn
  obtain⟨s,hs⟩:=rsign_tot (fu:=fu) (b:= !(decide ((shrk .u32 a 31)=(shrk .u32 b 31))))
  obtain⟨q,hq⟩:=F2_tot (fu:=fu) (a:=a) (b:=b) (c:=c)
  rw[NaN_spec,ob_some,NaN_spec,ob_some,NaN_spec,ob_some,Mul_spec,ob_some,NaN_spec,ob_some,Inf_spec,ob_some,hs,hq]
  simp only[ob_some]
  repeat' split
  all_goals exact⟨_,rfl⟩
theorem Fma_tot{fu:Nat}{a b c:Int}: ∃ r,round_Fma fu a b c=some r:=by
  unfold round_Fma round_FmaBy;try unfold jn
  rw[Inf_spec,ob_some,Inf_spec,ob_some]
  split
  · obtain⟨r,hr⟩:=F1_tot (fu:=fu) (a:=a) (b:=b) (c:=c) (m:=true)
    rw[hr];exact⟨_,rfl⟩
  · obtain⟨r,hr⟩:=F1_tot (fu:=fu) (a:=a) (b:=b) (c:=c) (m:=decide (bandn .u32 b 2147483648=2139095040))
    rw[hr];exact⟨_,rfl⟩
theorem row_tot{fu:Nat}{z x:Int}{l:List Int}(hl:l.length≤100)(hf:200<fu): ∃ r,elem_row fu z (x::l)=some r:=by
  unfold elem_row elem_row.W1
  rw[show at? (x::l) (0:Int)=some x from rfl,ob_some,chk_pos ⟨by decide,by simp;omega⟩]
  have hs:subN (x::l) 1 (x::l).length=l:=by unfold subN;simp
  refine cloop_ex (λs:Int×Int=>0<=s.2/\s.2<=l.length) (λs=>l.length - s.2.toNat) ?_ fu (x,0) ⟨Int.le_refl _,by simp⟩ (by show l.length - 0<fu;omega)
  rintro⟨p,i⟩ ⟨h0,h1⟩ next hn
  simp only at h0 h1 hn ⊢
  unfold elem_row.L1
  rw[hs]
  obtain⟨k,rfl⟩:=Int.eq_ofNat_of_zero_le h0
  by_cases hk:k<l.length
  · obtain⟨q,hq⟩:=Fma_tot (fu:=fu) (a:=z) (b:=p) (c:=l[k])
    rw[if_pos (by omega),at?_get hk,ob_some,hq,ob_some,wk_succ (by omega)]
    exact hn (q,((k+1:Nat):Int)) ⟨by show(0:Int)<=((k+1:Nat):Int);omega,by show((k+1:Nat):Int)<=_;omega⟩ (by show l.length - ((k+1:Nat):Int).toNat<l.length - ((k:Nat):Int).toNat;omega)
  · rw[if_neg (by omega)];exact⟨_,rfl⟩
theorem Log1_tot{fu:Nat}{a b:Int}(hf:200<fu): ∃ r,elem_Log.k1 fu a b=some r:=by
  unfold elem_Log.k1
  obtain⟨x8,h8⟩:=Sub_tot (fu:=fu) (x:=a) (y:=1065353216)
  obtain⟨x9,h9⟩:=Add_tot (fu:=fu) (x:=x8) (y:=1073741824)
  obtain⟨x10,h10⟩:=Div_tot (fu:=fu) (x:=x8) (y:=x9)
  obtain⟨x12,h12⟩:=row_tot (fu:=fu) (z:=mulV x10 x10) (x:=1046711865) (l:=[1049774373,1053609165,1059760811,1073741824]) (by decide) hf
  obtain⟨x14,h14⟩:=FromInt_tot (fu:=fu) (n:=b)
  obtain⟨x15,h15⟩:=Fma_tot (fu:=fu) (a:=x14) (b:=3109978243) (c:=mulV x10 x12)
  obtain⟨x16,h16⟩:=Fma_tot (fu:=fu) (a:=x14) (b:=1060208640) (c:=x15)
  rw[h8,ob_some,h9,ob_some,h10,ob_some,Mul_spec,ob_some,h12,ob_some,Mul_spec,ob_some,h14,ob_some,h15,ob_some,h16]
  exact⟨_,rfl⟩
theorem Log_tot{fu:Nat}{x:Int}(hf:200<fu): ∃ r,elem_Log fu x=some r:=by
  unfold elem_Log;try unfold jn
  obtain⟨p,hp⟩:=eparts_tot (fu:=fu) (x:=x)
  rw[NaN_spec,ob_some,Abs_spec,ob_some,Inf_spec,ob_some,hp,ob_some,Less_f,ob_some,Add_spec,ob_some]
  split
  · exact⟨_,rfl⟩
  · split
    · exact⟨_,rfl⟩
    · split
      · split
        · exact⟨_,rfl⟩
        · split
          · exact Log1_tot hf
          · exact Log1_tot hf
      · exact⟨_,rfl⟩
theorem Exp_tot{fu:Nat}{x:Int}(hf:200<fu): ∃ r,elem_Exp fu x=some r:=by
  unfold elem_Exp
  obtain⟨x6,h6⟩:=Even_tot (fu:=fu) (x:=mulV x 1069066811)
  obtain⟨x9,h9⟩:=Fma_tot (fu:=fu) (a:=x6) (b:=bxor .u32 1060208640 2147483648) (c:=x)
  obtain⟨x10,h10⟩:=Fma_tot (fu:=fu) (a:=x6) (b:=bxor .u32 3109978243 2147483648) (c:=x9)
  obtain⟨x11,h11⟩:=row_tot (fu:=fu) (z:=x10) (x:=985008993) (l:=[1007192201,1026206379,1042983595,1056964608,1065353216,1065353216]) (by decide) hf
  obtain⟨x12,h12⟩:=ToInt_tot (fu:=fu) (x:=x6)
  obtain⟨x13,h13⟩:=Scale_tot (fu:=fu) (x:=x11) (k:=x12)
  rw[NaN_spec,ob_some,Less_f,ob_some,Less_f,ob_some,Mul_spec,ob_some,h6,ob_some,Neg_spec,ob_some,Neg_spec,ob_some,h9,ob_some,h10,ob_some,h11,ob_some,h12,ob_some,h13]
  repeat' split
  all_goals exact⟨_,rfl⟩
theorem Pow1_tot{fu:Nat}{x y:Int}(hf:200<fu): ∃ r,elem_Pow.k1 fu x y=some r:=by
  unfold elem_Pow.k1
  obtain⟨x4,h4⟩:=Log_tot (fu:=fu) (x:=bandn .u32 x 2147483648) hf
  obtain⟨x6,h6⟩:=Exp_tot (fu:=fu) (x:=mulV y x4) hf
  obtain⟨x8,h8⟩:=Even_tot (fu:=fu) (x:=y)
  obtain⟨x12,h12⟩:=ToInt_tot (fu:=fu) (x:=y)
  rw[Abs_spec,ob_some,h4,ob_some,Mul_spec,ob_some,h6,ob_some,Inf_spec,ob_some,h8,ob_some,Equal_f,ob_some,Abs_spec,ob_some,Less_f,ob_some,h12,ob_some,Neg_spec,ob_some]
  repeat' split
  all_goals exact⟨_,rfl⟩
theorem Pow_tot{fu:Nat}{x y:Int}(hf:200<fu): ∃ r,elem_Pow fu x y=some r:=by
  unfold elem_Pow;try unfold jn
  obtain⟨k,hk⟩:=Pow1_tot (fu:=fu) (x:=x) (y:=y) hf
  obtain⟨x8,h8⟩:=Even_tot (fu:=fu) (x:=y)
  rw[Abs_spec,ob_some,NaN_spec,ob_some,NaN_spec,ob_some,Inf_spec,ob_some,Less_f,ob_some,h8,ob_some,Equal_f,ob_some,hk]
  simp only[ob_some]
  repeat' split
  all_goals exact⟨_,rfl⟩
end Go.Av
set_option linter.unusedSimpArgs false
namespace Go.Av
theorem bor_pos{a:Int}(h0:0≤a)(h1:a≤8388607):bor .u64 a 8388608≠0:=by
  unfold bor
  rw[show IntKind.u64.bits=64 from rfl,BitVec.toNat_or]
  have e:(BitVec.ofInt 64 a).toNat=a.toNat:=by rw[BitVec.toNat_ofInt];omega
  have e2:(BitVec.ofInt 64 8388608).toNat=8388608:=by decide
  have h:(BitVec.ofInt 64 a).toNat ||| (BitVec.ofInt 64 8388608).toNat<2 ^ 24:=by
    rw[e,e2];exact Nat.or_lt_two_pow (by omega) (by decide)
  have hr:8388608≤(BitVec.ofInt 64 a).toNat ||| (BitVec.ofInt 64 8388608).toNat:=by
    rw[e2];exact Nat.right_le_or
  have hw:=u64_eq (x:=(((BitVec.ofInt 64 a).toNat ||| (BitVec.ofInt 64 8388608).toNat:Nat):Int)) (by omega) (by omega)
  unfold wk at hw
  rw[hw]
  omega
theorem parts_tot{fu:Nat}{x:Int}(hx:Word x): ∃ m e,ewise_parts fu x=some (m,e)∧0≤m∧m<16777216∧1≤e∧e≤255∧(bandn .u32 x 2147483648≠0→m≠0):=by
  obtain⟨h0,h1⟩:=hx
  rw[abs_u32 h0 h1]
  obtain⟨n,rfl⟩:=Int.eq_ofNat_of_zero_le h0
  have hn:n<4294967296:=by omega
  have e23:shrk .u32 (n:Int) 23=((n / 8388608:Nat):Int):=shr_nat32 (k:=23) hn
  have em:band .u32 ((n / 8388608:Nat):Int) 255=((n / 8388608%256:Nat):Int):=mask_nat32 (j:=8) (by decide) (by omega)
  have ef:band .u32 (n:Int) 8388607=((n%8388608:Nat):Int):=mask_nat32 (j:=23) (by decide) hn
  unfold ewise_parts
  rw[e23,em,ef,wk_eq (x:=((n / 8388608%256:Nat):Int)) (by omega) (by omega),u64_eq (x:=((n%8388608:Nat):Int)) (by omega) (by omega)]
  split
  · exact⟨_,_,rfl,by omega,by omega,by decide,by decide,λh=>by omega⟩
  · have hb:=bor_rng (a:=((n%8388608:Nat):Int)) (by omega) (by omega)
    exact⟨_,_,rfl,hb.1,hb.2,by omega,by omega,λ_=>bor_pos (by omega) (by omega)⟩
theorem shl_ne{m:Int}{k:Nat}(h0:0≤m)(h1:m<16777216)(hz:m≠0)(hk:k≤40):shlk .u64 m (k:Int)≠0∧0≤shlk .u64 m (k:Int):=by
  obtain⟨n,rfl⟩:=Int.eq_ofNat_of_zero_le h0
  unfold shlk
  rw[min64 (by omega),← two_cast,← Int.natCast_mul]
  have hp:=two_mono hk
  have hlt:n*2 ^ k<2 ^ 64:=by
    have h2:n*2 ^ k<=n*2 ^ 40:=Nat.mul_le_mul_left _ hp
    have h3:n*2 ^ 40<16777216*2 ^ 40:=Nat.mul_lt_mul_of_pos_right (by omega) (by decide)
    have h4:16777216*2 ^ 40=2 ^ 64:=by decide
    omega
  have hpos:0<n*2 ^ k:=Nat.mul_pos (by omega) (Nat.pow_pos (by decide))
  have e:(2:Nat) ^ 64=18446744073709551616:=by decide
  have hw:=u64_eq (x:=((n*2 ^ k:Nat):Int)) (by omega) (by omega)
  unfold wk at hw
  rw[hw]
  omega
theorem r3_tot{fu:Nat}{x e c:Int}(h0:0≤c)(h1:c<18446744073709551616): ∃ r,ewise_rest.k3 fu x e c=some r:=by
  unfold ewise_rest.k3
  obtain⟨r,hr⟩:=Round_tot (fu:=fu) (a:= !(decide ((band .u32 x 2147483648)=0))) (e:=false) (b:=wk .i64 (e - 150)) h0 h1
  rw[hr];exact⟨_,rfl⟩
theorem r2_tot{fu:Nat}{x m e n f:Int}(hm:0≤m∧m<16777216)(he:1≤e∧e≤255)(hn:n≠0∧0≤n∧n<18446744073709551616)(hf:1≤f∧f≤255)(hu:300<fu): ∃ r,ewise_rest.k2 fu x (m,e) n f=some r:=by
  unfold ewise_rest.k2 ewise_rest.W1;try unfold jn
  rw[chk_pos hn.1]
  have hb: ∀ a:Int,0≤a→0≤Int.tmod a n∧Int.tmod a n<n:=fun a ha=>by
    rw[Int.tmod_eq_emod_of_nonneg ha]
    exact⟨Int.emod_nonneg _ hn.1,Int.emod_lt_of_pos _ (by omega)⟩
  refine cloop_ex (λs:Int×Int=>(0<=s.1/\s.1<n)/\ -10<=s.2/\s.2<=255) (λs=>(s.2 - f).toNat) ?_ fu (Int.tmod m n,e) ⟨hb m hm.1,by omega,by omega⟩ (by show(e - f).toNat<fu;omega)
  rintro⟨p,i⟩ ⟨⟨h0,h1⟩,h2,h3⟩ next hnx
  simp only at h0 h1 h2 h3 hnx ⊢
  unfold ewise_rest.L1
  by_cases hl:f<i
  · rw[if_pos hl,wk_eq (x:=i - 1) (by omega) (by omega)]
    exact hnx (Int.tmod (wk .u64 (p*2)) n,i - 1) ⟨hb _ (wk_u64 _).1,by show -10<=i - 1;omega,by show i - 1<=255;omega⟩ (by show(i - 1 - f).toNat<(i - f).toNat;omega)
  · rw[if_neg hl];exact r3_tot h0 (by omega)
theorem rest_tot{fu:Nat}{x y:Int}(hx:Word x)(hy:Word y)(hu:300<fu): ∃ r,ewise_rest fu x y=some r:=by
  unfold ewise_rest;try unfold jn
  rw[NaN_spec,ob_some,NaN_spec,ob_some,Inf_spec,ob_some,Abs_spec,ob_some,Inf_spec,ob_some]
  repeat' split
  all_goals first|exact⟨_,rfl⟩|skip
  rename_i hz _
  obtain⟨m,e,h1,m0,m1,e0,e1,_⟩:=parts_tot (fu:=fu) hx
  obtain⟨n,f,h2,n0,n1,f0,f1,nz⟩:=parts_tot (fu:=fu) hy
  have hnz:=nz hz
  unfold ewise_rest.k1;try unfold jn
  rw[h1,ob_some,h2,ob_some]
  dsimp only
  split
  · rw[wk_eq (x:=f - e) (by omega) (by omega)]
    split
    · exact⟨_,rfl⟩
    · rw[chk_pos (by omega)]
      obtain⟨k,hk⟩:=Int.eq_ofNat_of_zero_le (show 0<=f - e by omega)
      have hs:=shl_ne n0 n1 hnz (show k<=40 by omega)
      rw[hk]
      exact r2_tot ⟨m0,m1⟩ ⟨e0,e1⟩ ⟨hs.1,hs.2,(shl_rng (x:=n) (k:=(k:Int))).2⟩ ⟨e0,e1⟩ hu
  · exact r2_tot ⟨m0,m1⟩ ⟨e0,e1⟩ ⟨hnz,n0,by omega⟩ ⟨f0,f1⟩ hu
end Go.Av
set_option linter.unusedSimpArgs false
namespace Go.Av
def prK(fu:Nat)(x y:Int):Option Int:=(soft_Less fu x 0).bind λc=>if c=true then ewise_floatOf_4 fu x y else some x
def kF(fu:Nat)(op x y:Int):Option Int:=if op=28 then soft_Add fu x y else if op=29 then soft_Sub fu x y else if op=30 then soft_Mul fu x y else if op=31 then soft_Div fu x y else if op=32 then ewise_rest fu x y else if op=33 then elem_Pow fu x y else if op=34 then soft_Min fu x y else if op=35 then soft_Max fu x y else prK fu x y
def eF(fu:Nat)(op x y:Int):Int:=cnV ((kF fu op x y).getD 0)
def kI(fu:Nat)(m:Bool)(op x y:Int):Option Int:=if op=28 then some (wk .i64 (x+y))else if op=29 then some (wk .i64 (x - y))else if op=30 then some (wk .i64 (x*y))else if op=31 then ewise_quotient fu x y else if op=32 then ewise_remainder_1 fu x y m else if op=34 then some (imin x y)else some (imax x y)
def eI(fu:Nat)(m:Bool)(op x y:Int):Int:=(kI fu m op x y).getD 0
def eB(op:Int)(x y:Bool):Bool:=if op=23 then x&&y else if op=24 then x || y else if op=25 then !(x==y)else x==y
def eT(op x y:Int):Bool:=if op=37 then eqV x y else if op=38 then lessV x y else if op=39 then lessV x y || eqV x y else if op=40 then lessV y x else lessV y x || eqV x y
def eC(op x y:Int):Bool:=if op=37 then decide (x=y)else if op=38 then decide (x<y)else if op=39 then decide (x<=y)else if op=40 then decide (y<x)else decide (y<=x)
def zF(fu:Nat)(op:Int)(a b:T_Tensor)(d:List Int)(k:Nat):Int:=eF fu op (a.fF.getD (pl1 a.fDims d k) 0) (b.fF.getD (pl1 b.fDims d k) 0)
def zI(fu:Nat)(m:Bool)(op:Int)(a b:T_Tensor)(d:List Int)(k:Nat):Int:=eI fu m op (a.fI.getD (pl1 a.fDims d k) 0) (b.fI.getD (pl1 b.fDims d k) 0)
def zB(op:Int)(a b:T_Tensor)(d:List Int)(k:Nat):Bool:=eB op (a.fB.getD (pl1 a.fDims d k) false) (b.fB.getD (pl1 b.fDims d k) false)
def zT(op:Int)(a b:T_Tensor)(d:List Int)(k:Nat):Bool:=eT op (a.fF.getD (pl1 a.fDims d k) 0) (b.fF.getD (pl1 b.fDims d k) 0)
def zC(op:Int)(a b:T_Tensor)(d:List Int)(k:Nat):Bool:=eC op (a.fI.getD (pl1 a.fDims d k) 0) (b.fI.getD (pl1 b.fDims d k) 0)
def WordT(t:T_Tensor):Prop:= ∀ j,Word (t.fF.getD j 0)
theorem pr_tot{fu:Nat}{x y:Int}: ∃ r,prK fu x y=some r:=by
  unfold prK ewise_floatOf_4
  rw[Less_f,ob_some,Mul_spec]
  split <;> exact⟨_,rfl⟩
theorem kF_tot{fu:Nat}{op x y:Int}(hx:Word x)(hy:Word y)(hf:4200<fu): ∃ r,kF fu op x y=some r:=by
  unfold kF
  split
  · exact Add_tot
  split
  · exact Sub_tot
  split
  · exact Mul_tot
  split
  · exact Div_tot
  split
  · exact rest_tot hx hy (by omega)
  split
  · exact Pow_tot (by omega)
  split
  · exact⟨_,Min_f⟩
  split
  · exact⟨_,Max_f⟩
  exact pr_tot
theorem kF_do{fu:Nat}{op x y:Int}{β:Type}{f:Int→Option β}(hx:Word x)(hy:Word y)(hf:4200<fu):(kF fu op x y).bind (fun r=>(soft_Canon fu r).bind f)=f (eF fu op x y):=by
  unfold eF
  obtain⟨r,hr⟩:=kF_tot (op:=op) hx hy hf
  rw[hr,ob_some,Cn_f,ob_some];rfl
section
variable {fu:Nat} {a b:T_Tensor} {d:List Int} {s:T_Setting} {x y:Int} {p q:Bool} {β:Type}
theorem kf_28{f:Int->Option β}(hx:Word x)(hy:Word y)(hf:4200<fu):(soft_Add fu x y).bind (λr=>(soft_Canon fu r).bind f)=f (eF fu 28 x y):=kF_do (op:=28) hx hy hf
theorem kf_29{f:Int->Option β}(hx:Word x)(hy:Word y)(hf:4200<fu):(soft_Sub fu x y).bind (λr=>(soft_Canon fu r).bind f)=f (eF fu 29 x y):=kF_do (op:=29) hx hy hf
theorem kf_30{f:Int->Option β}(hx:Word x)(hy:Word y)(hf:4200<fu):(soft_Mul fu x y).bind (λr=>(soft_Canon fu r).bind f)=f (eF fu 30 x y):=kF_do (op:=30) hx hy hf
theorem kf_31{f:Int->Option β}(hx:Word x)(hy:Word y)(hf:4200<fu):(soft_Div fu x y).bind (λr=>(soft_Canon fu r).bind f)=f (eF fu 31 x y):=kF_do (op:=31) hx hy hf
theorem kf_32{f:Int->Option β}(hx:Word x)(hy:Word y)(hf:4200<fu):(ewise_rest fu x y).bind (λr=>(soft_Canon fu r).bind f)=f (eF fu 32 x y):=kF_do (op:=32) hx hy hf
theorem kf_33{f:Int->Option β}(hx:Word x)(hy:Word y)(hf:4200<fu):(elem_Pow fu x y).bind (λr=>(soft_Canon fu r).bind f)=f (eF fu 33 x y):=kF_do (op:=33) hx hy hf
theorem kf_34{f:Int->Option β}(hx:Word x)(hy:Word y)(hf:4200<fu):(soft_Min fu x y).bind (λr=>(soft_Canon fu r).bind f)=f (eF fu 34 x y):=kF_do (op:=34) hx hy hf
theorem kf_35{f:Int->Option β}(hx:Word x)(hy:Word y)(hf:4200<fu):(soft_Max fu x y).bind (λr=>(soft_Canon fu r).bind f)=f (eF fu 35 x y):=kF_do (op:=35) hx hy hf
theorem kf_36{f:Int→Option β}(hx:Word x)(hy:Word y)(hf:4200<fu):((soft_Less fu x 0).bind fun c=>if c=true then((ewise_floatOf_4 fu x y).bind fun r=>(soft_Canon fu r).bind f)else(soft_Canon fu x).bind f)=f (eF fu 36 x y):=by
  refine Eq.trans ?_ (kF_do (op:=36) (f:=f) hx hy hf)
  show _=(prK fu x y).bind _
  unfold prK
  rw[Less_f,ob_some,ob_some]
  split <;> rfl
theorem quo_tot(h:y≠0): ∃ r,ewise_quotient fu x y=some r:=by
  unfold ewise_quotient
  split
  · exact⟨_,rfl⟩
  · rw[chk_pos h];exact⟨_,rfl⟩
theorem ki_28:ewise_intOf_4 fu x y=some (eI fu s.fFmod 28 x y):=rfl
theorem ki_29:ewise_intOf_5 fu x y=some (eI fu s.fFmod 29 x y):=rfl
theorem ki_30:ewise_intOf_6 fu x y=some (eI fu s.fFmod 30 x y):=rfl
theorem ki_34:ewise_intOf_7 fu x y=some (eI fu s.fFmod 34 x y):=rfl
theorem ki_35:ewise_intOf_8 fu x y=some (eI fu s.fFmod 35 x y):=rfl
theorem ki_31(h:y≠0):ewise_quotient fu x y=some (eI fu s.fFmod 31 x y):=by
  obtain⟨r,hr⟩:=quo_tot (fu:=fu) (x:=x) h
  rw[show eI fu s.fFmod 31 x y=(ewise_quotient fu x y).getD 0 from rfl,hr];rfl
theorem ki_32(h:y≠0):ewise_remainder_1 fu x y s.fFmod=some (eI fu s.fFmod 32 x y):=by
  have: ∃ r,ewise_remainder_1 fu x y s.fFmod=some r:=by
    unfold ewise_remainder_1
    obtain⟨r,hr⟩:=quo_tot (fu:=fu) (x:=x) h
    rw[hr,ob_some]
    repeat' split
    all_goals exact⟨_,rfl⟩
  obtain⟨r,hr⟩:=this
  rw[show eI fu s.fFmod 32 x y=(ewise_remainder_1 fu x y s.fFmod).getD 0 from rfl,hr];rfl
theorem kb_23:ewise_kernelOf_3 fu p q=some (eB 23 p q):=by cases p <;> cases q <;> rfl
theorem kb_24:ewise_kernelOf_4 fu p q=some (eB 24 p q):=by cases p <;> cases q <;> rfl
theorem kb_25:ewise_kernelOf_5 fu p q=some (eB 25 p q):=by cases p <;> cases q <;> rfl
theorem kb_37:ewise_kernelOf_8 fu p q=some (eB 37 p q):=by cases p <;> cases q <;> rfl
theorem kt_37:soft_Equal fu x y=some (eT 37 x y):=Equal_f
theorem kt_38:soft_Less fu x y=some (eT 38 x y):=Less_f
theorem kt_39:ewise_kernelOf_11 fu x y=some (eT 39 x y):=by
  unfold ewise_kernelOf_11
  rw[Less_f,ob_some,Equal_f]
  show _=some (lessV x y || eqV x y)
  cases lessV x y <;> simp
theorem kt_40:ewise_kernelOf_13 fu x y=some (eT 40 x y):=by
  unfold ewise_kernelOf_13
  rw[Less_f];rfl
theorem kt_41:ewise_kernelOf_15 fu x y=some (eT 41 x y):=by
  unfold ewise_kernelOf_15
  rw[Less_f,ob_some,Equal_f]
  show _=some (lessV y x || eqV x y)
  cases lessV y x <;> simp
theorem kc_37:ewise_kernelOf_9 fu x y=some (eC 37 x y):=rfl
theorem kc_38:ewise_kernelOf_10 fu x y=some (eC 38 x y):=rfl
theorem kc_39:ewise_kernelOf_12 fu x y=some (eC 39 x y):=rfl
theorem kc_40:ewise_kernelOf_14 fu x y=some (eC 40 x y):=rfl
theorem kc_41:ewise_kernelOf_16 fu x y=some (eC 41 x y):=rfl
def OPF(op:Int):Prop:=op=28∨op=29∨op=30∨op=31∨op=32∨op=33∨op=34∨op=35∨op=36
def OPI(op:Int):Prop:=op=28∨op=29∨op=30∨op=31∨op=32∨op=34∨op=35
def OPB(op:Int):Prop:=op=23∨op=24∨op=25∨op=37
def OPT(op:Int):Prop:=op=37∨op=38∨op=39∨op=40∨op=41
theorem kcF{op:Int}{f:Int→Option β}(h:OPF op)(hx:Word x)(hy:Word y)(hf:4200<fu):(kc56_0 fu op s x y).bind (fun r=>(soft_Canon fu r).bind f)=f (eF fu op x y):=by
  rcases h with rfl|rfl|rfl|rfl|rfl|rfl|rfl|rfl|rfl
  · exact kf_28 hx hy hf
  · exact kf_29 hx hy hf
  · exact kf_30 hx hy hf
  · exact kf_31 hx hy hf
  · exact kf_32 hx hy hf
  · exact kf_33 hx hy hf
  · exact kf_34 hx hy hf
  · exact kf_35 hx hy hf
  · refine Eq.trans ?_ (kf_36 hx hy hf)
    show(kt306 fu 210 x y).bind _=_
    unfold kt306
    rw[if_pos rfl]
    unfold ewise_below_1
    rw[Less_f,ob_some,ob_some]
    split
    · exact congrArg (λq:Option Int=>q.bind λr=>(soft_Canon fu r).bind f) (show(ewise_floatOf_4 fu x y).bind (λx5=>some x5)=ewise_floatOf_4 fu x y by cases ewise_floatOf_4 fu x y <;> rfl)
    · rfl
theorem kcI{op:Int}(h:OPI op)(nz:op=31∨op=32→y≠0):kc56_1 fu op s x y=some (eI fu s.fFmod op x y):=by
  rcases h with rfl|rfl|rfl|rfl|rfl|rfl|rfl
  · exact ki_28 (s:=s)
  · exact ki_29 (s:=s)
  · exact ki_30 (s:=s)
  · exact ki_31 (s:=s) (nz (.inl rfl))
  · exact ki_32 (s:=s) (nz (.inr rfl))
  · exact ki_34 (s:=s)
  · exact ki_35 (s:=s)
theorem kcB{op:Int}(h:OPB op):kc56_2 fu op s p q=some (eB op p q):=by
  rcases h with rfl|rfl|rfl|rfl
  · exact kb_23 (fu:=fu)
  · exact kb_24 (fu:=fu)
  · exact kb_25 (fu:=fu)
  · exact kb_37 (fu:=fu)
theorem kcT{op:Int}(h:OPT op):kc56_3 fu op s x y=some (eT op x y):=by
  rcases h with rfl|rfl|rfl|rfl|rfl
  · exact kt_37
  · exact kt_38
  · exact kt_39
  · exact kt_40
  · exact kt_41
theorem kcC{op:Int}(h:OPT op):kc56_4 fu op s x y=some (eC op x y):=by
  rcases h with rfl|rfl|rfl|rfl|rfl
  · exact kc_37 (fu:=fu)
  · exact kc_38 (fu:=fu)
  · exact kc_39 (fu:=fu)
  · exact kc_40 (fu:=fu)
  · exact kc_41 (fu:=fu)
theorem lpF{op:Int}(ho:OPF op)(h:Two fu a b d)(ta:a.fType=1)(tb:b.fType=1)(wa:WordT a)(wb:WordT b):ewise_Do.W1 fu op s [a,b] (⟨1,d,(List.replicate (prod d).toNat 0),[],[]⟩,0) (prod d,0) (op,s) (List.replicate (prod d).toNat 0) [] [] 0=some (⟨1,d,((List.range (prod d).toNat).map (zF fu op a b d)),[],[]⟩,0):=by
  have hg:=h.gd
  have hf:=h.hf
  have hp:=prod_nonneg hg.2.1
  have hq:=hg.2.2
  have n42:op≠42:=by rcases ho with rfl|rfl|rfl|rfl|rfl|rfl|rfl|rfl|rfl <;> decide
  have n43:op≠43:=by rcases ho with rfl|rfl|rfl|rfl|rfl|rfl|rfl|rfl|rfl <;> decide
  have n44:op≠44:=by rcases ho with rfl|rfl|rfl|rfl|rfl|rfl|rfl|rfl|rfl <;> decide
  unfold ewise_Do.W1
  refine cloop_st (body:=λnext s_1=>_) (prod d).toNat (λk=>((fillL (prod d).toNat (zF fu op a b d) 0 k),[],[],(k:Int))) _ ?_ ?_ (by omega)
  · intro k hk next hn
    show ewise_Do.L1 fu op s [a,b] _ _ (op,s) (λy0 y1 y2 y3=>next (y0,y1,y2,y3)) (fillL (prod d).toNat (zF fu op a b d) 0 k) [] [] (k:Int)=_
    have hk2:(k:Int)<prod d:=by omega
    unfold ewise_Do.L1
    dsimp only
    rw[chk_pos (by rw[fillL_len (by omega)];simp),chk_pos rfl,chk_pos rfl,if_pos hk2,if_neg n42,if_neg n43,if_neg n44,in_0,ob_some,in_1,ob_some,place_0 h hk2,ob_some,place_1 h hk2,ob_some,if_pos ta,if_pos rfl,rdF_a h ta hk2,ob_some,rdF_b h tb hk2,ob_some,kcF ho (wa _) (wb _) hf,chk_pos ⟨by omega,by rw[fillL_len (by omega)];omega⟩,Int.toNat_natCast,wk_succ (by omega)]
    exact(congrArg (λq=>next (q,[],[],((k+1:Nat):Int))) (fillL_set (g:=zF fu op a b d) hk)).trans hn
  · intro next
    show ewise_Do.L1 fu op s [a,b] _ _ (op,s) _ (fillL (prod d).toNat (zF fu op a b d) 0 (prod d).toNat) [] [] (((prod d).toNat:Nat):Int)=_
    unfold ewise_Do.L1
    dsimp only
    rw[chk_pos (by rw[fillL_len (Nat.le_refl _)];simp),chk_pos rfl,chk_pos rfl,if_neg (by omega),fillL_full]
theorem lpI{op:Int}(ho:OPI op)(h:Two fu a b d)(ta:a.fType=7)(tb:b.fType=7)(nz:op=31∨op=32→ ∀ k,k<(prod d).toNat→b.fI.getD (pl1 b.fDims d k) 0≠0):ewise_Do.W1 fu op s [a,b] (⟨7,d,[],(List.replicate (prod d).toNat 0),[]⟩,0) (prod d,0) (op,s) [] (List.replicate (prod d).toNat 0) [] 0=some (⟨7,d,[],((List.range (prod d).toNat).map (zI fu s.fFmod op a b d)),[]⟩,0):=by
  have hg:=h.gd
  have hf:=h.hf
  have hp:=prod_nonneg hg.2.1
  have hq:=hg.2.2
  have n42:op≠42:=by rcases ho with rfl|rfl|rfl|rfl|rfl|rfl|rfl <;> decide
  have n43:op≠43:=by rcases ho with rfl|rfl|rfl|rfl|rfl|rfl|rfl <;> decide
  have n44:op≠44:=by rcases ho with rfl|rfl|rfl|rfl|rfl|rfl|rfl <;> decide
  unfold ewise_Do.W1
  refine cloop_st (body:=λnext s_1=>_) (prod d).toNat (λk=>([],(fillL (prod d).toNat (zI fu s.fFmod op a b d) 0 k),[],(k:Int))) _ ?_ ?_ (by omega)
  · intro k hk next hn
    show ewise_Do.L1 fu op s [a,b] _ _ (op,s) (λy0 y1 y2 y3=>next (y0,y1,y2,y3)) [] (fillL (prod d).toNat (zI fu s.fFmod op a b d) 0 k) [] (k:Int)=_
    have hk2:(k:Int)<prod d:=by omega
    unfold ewise_Do.L1
    dsimp only
    rw[chk_pos rfl,chk_pos (by rw[fillL_len (by omega)];simp),chk_pos rfl,if_pos hk2,if_neg n42,if_neg n43,if_neg n44,in_0,ob_some,in_1,ob_some,place_0 h hk2,ob_some,place_1 h hk2,ob_some,if_neg (by rw[ta];decide),if_pos ta,if_pos rfl,rdI_a h ta hk2,ob_some,rdI_b h tb hk2,ob_some,kcI ho (λhh=>nz hh k (by omega)),ob_some,chk_pos ⟨by omega,by rw[fillL_len (by omega)];omega⟩,Int.toNat_natCast,wk_succ (by omega)]
    exact(congrArg (λq=>next ([],q,[],((k+1:Nat):Int))) (fillL_set (g:=zI fu s.fFmod op a b d) hk)).trans hn
  · intro next
    show ewise_Do.L1 fu op s [a,b] _ _ (op,s) _ [] (fillL (prod d).toNat (zI fu s.fFmod op a b d) 0 (prod d).toNat) [] (((prod d).toNat:Nat):Int)=_
    unfold ewise_Do.L1
    dsimp only
    rw[chk_pos rfl,chk_pos (by rw[fillL_len (Nat.le_refl _)];simp),chk_pos rfl,if_neg (by omega),fillL_full]
theorem lpB{op:Int}(ho:OPB op)(h:Two fu a b d)(ta:a.fType=9)(tb:b.fType=9):ewise_Do.W1 fu op s [a,b] (⟨9,d,[],[],(List.replicate (prod d).toNat false)⟩,0) (prod d,0) (op,s) [] [] (List.replicate (prod d).toNat false) 0=some (⟨9,d,[],[],((List.range (prod d).toNat).map (zB op a b d))⟩,0):=by
  have hg:=h.gd
  have hf:=h.hf
  have hp:=prod_nonneg hg.2.1
  have hq:=hg.2.2
  have n42:op≠42:=by rcases ho with rfl|rfl|rfl|rfl <;> decide
  have n43:op≠43:=by rcases ho with rfl|rfl|rfl|rfl <;> decide
  have n44:op≠44:=by rcases ho with rfl|rfl|rfl|rfl <;> decide
  unfold ewise_Do.W1
  refine cloop_st (body:=λnext s_1=>_) (prod d).toNat (λk=>([],[],(fillL (prod d).toNat (zB op a b d) false k),(k:Int))) _ ?_ ?_ (by omega)
  · intro k hk next hn
    show ewise_Do.L1 fu op s [a,b] _ _ (op,s) (λy0 y1 y2 y3=>next (y0,y1,y2,y3)) [] [] (fillL (prod d).toNat (zB op a b d) false k) (k:Int)=_
    have hk2:(k:Int)<prod d:=by omega
    unfold ewise_Do.L1
    dsimp only
    rw[chk_pos rfl,chk_pos rfl,chk_pos (by rw[fillL_len (by omega)];simp),if_pos hk2,if_neg n42,if_neg n43,if_neg n44,in_0,ob_some,in_1,ob_some,place_0 h hk2,ob_some,place_1 h hk2,ob_some,if_neg (by rw[ta];decide),if_neg (by rw[ta];decide),rdB_a h ta hk2,ob_some,rdB_b h tb hk2,ob_some,kcB ho,ob_some,chk_pos ⟨by omega,by rw[fillL_len (by omega)];omega⟩,Int.toNat_natCast,wk_succ (by omega)]
    exact(congrArg (λq=>next ([],[],q,((k+1:Nat):Int))) (fillL_set (g:=zB op a b d) hk)).trans hn
  · intro next
    show ewise_Do.L1 fu op s [a,b] _ _ (op,s) _ [] [] (fillL (prod d).toNat (zB op a b d) false (prod d).toNat) (((prod d).toNat:Nat):Int)=_
    unfold ewise_Do.L1
    dsimp only
    rw[chk_pos rfl,chk_pos rfl,chk_pos (by rw[fillL_len (Nat.le_refl _)];simp),if_neg (by omega),fillL_full]
theorem lpT{op:Int}(ho:OPT op)(h:Two fu a b d)(ta:a.fType=1)(tb:b.fType=1):ewise_Do.W1 fu op s [a,b] (⟨9,d,[],[],(List.replicate (prod d).toNat false)⟩,0) (prod d,0) (op,s) [] [] (List.replicate (prod d).toNat false) 0=some (⟨9,d,[],[],((List.range (prod d).toNat).map (zT op a b d))⟩,0):=by
  have hg:=h.gd
  have hf:=h.hf
  have hp:=prod_nonneg hg.2.1
  have hq:=hg.2.2
  have n42:op≠42:=by rcases ho with rfl|rfl|rfl|rfl|rfl <;> decide
  have n43:op≠43:=by rcases ho with rfl|rfl|rfl|rfl|rfl <;> decide
  have n44:op≠44:=by rcases ho with rfl|rfl|rfl|rfl|rfl <;> decide
  unfold ewise_Do.W1
  refine cloop_st (body:=λnext s_1=>_) (prod d).toNat (λk=>([],[],(fillL (prod d).toNat (zT op a b d) false k),(k:Int))) _ ?_ ?_ (by omega)
  · intro k hk next hn
    show ewise_Do.L1 fu op s [a,b] _ _ (op,s) (λy0 y1 y2 y3=>next (y0,y1,y2,y3)) [] [] (fillL (prod d).toNat (zT op a b d) false k) (k:Int)=_
    have hk2:(k:Int)<prod d:=by omega
    unfold ewise_Do.L1
    dsimp only
    rw[chk_pos rfl,chk_pos rfl,chk_pos (by rw[fillL_len (by omega)];simp),if_pos hk2,if_neg n42,if_neg n43,if_neg n44,in_0,ob_some,in_1,ob_some,place_0 h hk2,ob_some,place_1 h hk2,ob_some,if_pos ta,if_neg (by decide),rdF_a h ta hk2,ob_some,rdF_b h tb hk2,ob_some,kcT ho,ob_some,chk_pos ⟨by omega,by rw[fillL_len (by omega)];omega⟩,Int.toNat_natCast,wk_succ (by omega)]
    exact(congrArg (λq=>next ([],[],q,((k+1:Nat):Int))) (fillL_set (g:=zT op a b d) hk)).trans hn
  · intro next
    show ewise_Do.L1 fu op s [a,b] _ _ (op,s) _ [] [] (fillL (prod d).toNat (zT op a b d) false (prod d).toNat) (((prod d).toNat:Nat):Int)=_
    unfold ewise_Do.L1
    dsimp only
    rw[chk_pos rfl,chk_pos rfl,chk_pos (by rw[fillL_len (Nat.le_refl _)];simp),if_neg (by omega),fillL_full]
theorem lpC{op:Int}(ho:OPT op)(h:Two fu a b d)(ta:a.fType=7)(tb:b.fType=7):ewise_Do.W1 fu op s [a,b] (⟨9,d,[],[],(List.replicate (prod d).toNat false)⟩,0) (prod d,0) (op,s) [] [] (List.replicate (prod d).toNat false) 0=some (⟨9,d,[],[],((List.range (prod d).toNat).map (zC op a b d))⟩,0):=by
  have hg:=h.gd
  have hf:=h.hf
  have hp:=prod_nonneg hg.2.1
  have hq:=hg.2.2
  have n42:op≠42:=by rcases ho with rfl|rfl|rfl|rfl|rfl <;> decide
  have n43:op≠43:=by rcases ho with rfl|rfl|rfl|rfl|rfl <;> decide
  have n44:op≠44:=by rcases ho with rfl|rfl|rfl|rfl|rfl <;> decide
  unfold ewise_Do.W1
  refine cloop_st (body:=λnext s_1=>_) (prod d).toNat (λk=>([],[],(fillL (prod d).toNat (zC op a b d) false k),(k:Int))) _ ?_ ?_ (by omega)
  · intro k hk next hn
    show ewise_Do.L1 fu op s [a,b] _ _ (op,s) (λy0 y1 y2 y3=>next (y0,y1,y2,y3)) [] [] (fillL (prod d).toNat (zC op a b d) false k) (k:Int)=_
    have hk2:(k:Int)<prod d:=by omega
    unfold ewise_Do.L1
    dsimp only
    rw[chk_pos rfl,chk_pos rfl,chk_pos (by rw[fillL_len (by omega)];simp),if_pos hk2,if_neg n42,if_neg n43,if_neg n44,in_0,ob_some,in_1,ob_some,place_0 h hk2,ob_some,place_1 h hk2,ob_some,if_neg (by rw[ta];decide),if_pos ta,if_neg (by decide),rdI_a h ta hk2,ob_some,rdI_b h tb hk2,ob_some,kcC ho,ob_some,chk_pos ⟨by omega,by rw[fillL_len (by omega)];omega⟩,Int.toNat_natCast,wk_succ (by omega)]
    exact(congrArg (λq=>next ([],[],q,((k+1:Nat):Int))) (fillL_set (g:=zC op a b d) hk)).trans hn
  · intro next
    show ewise_Do.L1 fu op s [a,b] _ _ (op,s) _ [] [] (fillL (prod d).toNat (zC op a b d) false (prod d).toNat) (((prod d).toNat:Nat):Int)=_
    unfold ewise_Do.L1
    dsimp only
    rw[chk_pos rfl,chk_pos rfl,chk_pos (by rw[fillL_len (Nat.le_refl _)];simp),if_neg (by omega),fillL_full]
end
end Go.Av
set_option linter.unusedSimpArgs false
namespace Go.Av
def outE(fu:Nat)(op:Int)(s:T_Setting)(a b:T_Tensor)(d:List Int):T_Tensor:=
  if op=23∨op=24∨op=25∨op=37∨op=38∨op=39∨op=40∨op=41 then⟨9,d,[],[],(List.range (prod d).toNat).map (if a.fType=9 then zB op a b d else if a.fType=1 then zT op a b d else zC op a b d)⟩
  else if a.fType=1 then⟨1,d,(List.range (prod d).toNat).map (zF fu op a b d),[],[]⟩else⟨7,d,[],(List.range (prod d).toNat).map (zI fu s.fFmod op a b d),[]⟩
def AccT(op:Int)(s:T_Setting)(a b:T_Tensor)(d:List Int):Prop:=checkV a=0/\checkV b=0/\okT op a.fType/\b.fType=a.fType/\okA op s a.fType/\shp op a.fDims b.fDims=some d
def Dv(op:Int)(a b:T_Tensor)(d:List Int):Prop:=(op=31∨op=32)/\a.fType=7/\ ∃ k,k<(prod d).toNat/\b.fI.getD (pl1 b.fDims d k) 0=0
theorem bcv_some{a b:List Int}(ga:Good a)(gb:Good b)(h:(broadcastV a b).2=0):bc a b=some (broadcastV a b).1∧Good (broadcastV a b).1:=by
  refine⟨?_,good_bc h⟩
  simp only[broadcastV,if_pos ga,if_pos gb]at h ⊢
  cases hl:bc a b with
  |none=>rw[hl]at h;exact absurd h (by decide)
  | some l=>
    rw[hl]at h
    simp only at h ⊢
    by_cases h3:Good l
    · rw[if_pos h3]
    · rw[if_neg h3]at h;exact absurd h (errS_ne _)
theorem bcv_of{a d:List Int}(ga:Good a)(gd:Good d)(h:bc a d=some d):broadcastV a d=(d,0):=by
  simp only[broadcastV,if_pos ga,if_pos gd,h]
theorem canonT_len{t:T_Tensor}(h:LensOK t):LensOK (canonT t):=by
  unfold LensOK canonT at*
  simpa using h
theorem shp_bc{op:Int}{a b d:List Int}(ga:Good a)(gb:Good b)(h:shp op a b=some d):bc a b=some d∧Good d:=by
  refine⟨?_,shp_good ga h⟩
  unfold shp at h
  split at h
  · split at h
    · rename_i hb
      injection h with h;subst h
      have h2:=(bcv_some gb ga (by rw[hb])).1
      rw[hb]at h2
      rw[bc_comm];exact h2
    · cases h
  · split at h
    · rename_i hb
      injection h with h;subst h
      exact(bcv_some ga gb hb).1
    · cases h
theorem shp_self{op:Int}{a b d:List Int}(ga:Good a)(gb:Good b)(h:shp op a b=some d):shp op d d=some d:=by
  obtain⟨h1,gd⟩:=shp_bc ga gb h
  have h2:=bcv_of gd gd (bc_left h1).2.2.1
  unfold shp
  rw[h2]
  split <;> simp
theorem two_of{fu:Nat}{op:Int}{a b:T_Tensor}{d:List Int}(hf:4200<fu)(ca:checkV a=0)(cb:checkV b=0)(h:shp op a.fDims b.fDims=some d):Two fu (canonT a) (canonT b) d:=by
  obtain⟨_,ga,la⟩:=checkV_zero.1 ca
  obtain⟨_,gb,lb⟩:=checkV_zero.1 cb
  obtain⟨h1,gd⟩:=shp_bc ga gb h
  obtain⟨q1,q2,_⟩:=bc_left h1
  exact⟨ga,gb,gd,bcv_of ga gd (bc_comm ▸ q1),bcv_of gb gd q2,canonT_len la,canonT_len lb,hf⟩
theorem valOf_type{t:T_Tensor}:(valOf t).fType=t.fType:=by
  unfold valOf zeroVal
  split <;> simp_all
theorem valOf_dims{t:T_Tensor}(h:t.fType≠0):(valOf t).fDims=t.fDims:=by
  unfold valOf
  rw[if_neg h]
theorem good_nil:Good []:=by
  unfold Good
  exact⟨by decide,λx hx=>absurd hx (by simp),by decide⟩
theorem valOf_good{t:T_Tensor}(h:t.fType=0∨checkV t=0):Good (valOf t).fDims:=by
  by_cases h0:t.fType=0
  · unfold valOf
    rw[if_pos h0]
    exact good_nil
  · rw[valOf_dims h0]
    exact(checkV_zero.1 (h.resolve_left h0)).2.1
theorem check_type{t:T_Tensor}(h:checkV t=0):t.fType≠0:=by
  obtain⟨hk,_,_⟩:=checkV_zero.1 h
  rcases hk with e|e|e <;> rw[e] <;> decide
theorem newV_at{k:Int}{d:List Int}(gd:Good d)(hk:k=1∨k=7∨k=9):newV k d=(if k=1 then(⟨k,d,List.replicate (prod d).toNat 0,[],[]⟩,0)else if k=7 then(⟨k,d,[],List.replicate (prod d).toNat 0,[]⟩,0)else(⟨k,d,[],[],List.replicate (prod d).toNat false⟩,0)):=by
  unfold newV
  rw[if_pos hk,if_pos gd]
theorem canonF_word{x:Int}(h:Word x):Word (canonF x):=by
  unfold canonF
  split
  · exact⟨by decide,by decide⟩
  · exact h
theorem wordT{t:T_Tensor}(h:Ten t):WordT (canonT t):=fun j=>by
  rw[List.getD_eq_getElem?_getD]
  cases hj:(canonT t).fF[j]? with
  |none=>exact⟨by decide,by decide⟩
  | some x=>
    have hx:x ∈ (canonT t).fF:=List.mem_of_getElem? hj
    obtain⟨y,hy,rfl⟩:=List.mem_map.1 (show x ∈ t.fF.map canonF from hx)
    exact canonF_word (h.2.2.2.2 y hy)
theorem has_spec{fu:Nat}{op:Int}(h:OPS op):ewise_Has fu op=some true:=by
  rcases h with rfl|rfl|rfl|rfl|rfl|rfl|rfl|rfl|rfl|rfl|rfl|rfl|rfl|rfl|rfl|rfl|rfl <;> rfl
theorem least{p:Nat→Prop}: ∀ n,(∃ k,k<n∧p k)→ ∃ k,k<n∧p k∧ ∀ j,j<k→ ¬ p j:=by
  intro n
  induction n with
  |zero=>rintro⟨k,h,_⟩;omega
  | succ n ih=>
    rintro⟨k,h1,h2⟩
    by_cases h: ∃ k,k<n/\p k
    · obtain⟨j,h3,h4,h5⟩:=ih h
      exact⟨j,by omega,h4,h5⟩
    · have hk:k=n:=by
        rcases Nat.lt_or_ge k n with hlt|hge
        · exact absurd ⟨k,hlt,h2⟩ h
        · omega
      subst hk
      exact⟨k,by omega,h2,λj hj hp=>h ⟨j,hj,hp⟩⟩
theorem divides_loop{fu:Nat}{op:Int}{s:T_Setting}{a b t:T_Tensor}{d:List Int}(h:Two fu a b d)(td:t.fDims=d)(tb:b.fType=7):
    ((∃ k,k<(prod d).toNat/\b.fI.getD (pl1 b.fDims d k) 0=0)->ewise_work_divides.k1 fu ⟨op,s,[a,b],t,prod d⟩=some true)/\((∀ k,k<(prod d).toNat->b.fI.getD (pl1 b.fDims d k) 0≠0)->ewise_work_divides.k1 fu ⟨op,s,[a,b],t,prod d⟩=some false):=by
  have hg:=h.gd
  have hf:=h.hf
  have hp:=prod_nonneg hg.2.1
  have hq:=hg.2.2
  obtain⟨ty,dd,F,I,B⟩:=t
  obtain rfl:dd=d:=td
  have body: ∀ (k:Nat) (next:Int→Option Bool),(k:Int)<prod dd→ewise_work_divides.L1 fu ⟨op,s,[a,b],⟨ty,dd,F,I,B⟩,prod dd⟩ next (k:Int)=if b.fI.getD (pl1 b.fDims dd k) 0=0 then some true else next ((k+1:Nat):Int):=by
    intro k next hk
    unfold ewise_work_divides.L1
    dsimp only
    rw[if_pos hk,show at? [a,b] (1:Int)=some b from rfl,ob_some]
    have hpl:ewise_work_place fu ⟨op,s,[a,b],⟨ty,dd,F,I,B⟩,prod dd⟩ 1 (k:Int)=some ((pl1 b.fDims dd k:Nat):Int):=place_1 h hk
    rw[hpl,ob_some,rdI_b h tb hk,ob_some,wk_succ (by omega)]
  unfold ewise_work_divides.k1 ewise_work_divides.W1
  constructor
  · intro hz
    obtain⟨k0,h1,h2,h3⟩:=least _ hz
    refine cloop_st (body:=λnext s_1=>_) k0 (λk=>(k:Int)) (some true) ?_ ?_ (by omega)
    · intro k hk next hn
      show ewise_work_divides.L1 fu _ next (k:Int)=_
      rw[body k next (by omega),if_neg (h3 k hk)]
      exact hn
    · intro next
      show ewise_work_divides.L1 fu _ next (k0:Int)=_
      rw[body k0 next (by omega),if_pos h2]
  · intro hz
    refine cloop_st (body:=λnext s_1=>_) (prod dd).toNat (λk=>(k:Int)) (some false) ?_ ?_ (by omega)
    · intro k hk next hn
      show ewise_work_divides.L1 fu _ next (k:Int)=_
      rw[body k next (by omega),if_neg (hz k hk)]
      exact hn
    · intro next
      show ewise_work_divides.L1 fu _ next (((prod dd).toNat:Nat):Int)=_
      unfold ewise_work_divides.L1
      dsimp only
      rw[if_neg (by omega)]
theorem divides_spec{fu:Nat}{op:Int}{s:T_Setting}{a b t:T_Tensor}{d:List Int}(h:Two fu a b d)(td:t.fDims=d)(tb:b.fType=a.fType):
    (Dv op a b d/\ewise_work_divides fu ⟨op,s,[a,b],t,prod d⟩=some true)∨(¬ Dv op a b d/\ewise_work_divides fu ⟨op,s,[a,b],t,prod d⟩=some false):=by
  have e0:ewise_work_divides fu ⟨op,s,[a,b],t,prod d⟩=if op=31∨op=32 then(if a.fType=7 then ewise_work_divides.k1 fu ⟨op,s,[a,b],t,prod d⟩else some false)else some false:=by
    unfold ewise_work_divides;try unfold jn
    dsimp only
    rw[show at? [a,b] (0:Int)=some a from rfl]
    simp only[ob_some]
    by_cases h1:op=31
    · rw[if_pos h1,if_pos (show op=31∨op=32 from .inl h1)]
    · rw[if_neg h1]
      by_cases h2:op=32
      · rw[if_pos h2,if_pos (show op=31∨op=32 from .inr h2)]
      · rw[if_neg h2,if_neg (λhh=>hh.elim h1 h2)]
  rw[e0]
  by_cases ho:op=31∨op=32
  · rw[if_pos ho]
    by_cases ht:a.fType=7
    · rw[if_pos ht]
      obtain⟨q1,q2⟩:=divides_loop (op:=op) (s:=s) h td (tb.trans ht)
      by_cases hz: ∃ k,k<(prod d).toNat/\b.fI.getD (pl1 b.fDims d k) 0=0
      · exact .inl ⟨⟨ho,ht,hz⟩,q1 hz⟩
      · exact .inr ⟨λhd=>hz hd.2.2,q2 λk hk h0=>hz ⟨k,hk,h0⟩⟩
    · rw[if_neg ht];exact .inr ⟨λhd=>ht hd.2.1,rfl⟩
  · rw[if_neg ho];exact .inr ⟨λhd=>ho hd.1,rfl⟩
theorem Do2 {fu:Nat}{op:Int}{s:T_Setting}{a b:T_Tensor}(h:OPS op)(ht:Tens fu [a,b])(wa:Ten a)(wb:Ten b)(hf:4200<fu):
    (∃ d,AccT op s a b d/\((¬ Dv op (canonT a) (canonT b) d/\ewise_Do fu op s [a,b]=some (outE fu op s (canonT a) (canonT b) d,0))∨(Dv op (canonT a) (canonT b) d/\ewise_Do fu op s [a,b]=some (noT,10))))∨((∀ d,¬ AccT op s a b d)/\ ∃ e,e≠0/\ewise_Do fu op s [a,b]=some (noT,e)):=by
  unfold ewise_Do ewise_Do.W2;try unfold jn
  rw[has_spec h,ob_some,if_pos rfl,head_loop ht (L:=ewise_Do.L2 fu op s [a,b]) (k1:=ewise_Do.k1 fu op s [a,b]) (er:=λe=>some (noT,e)) (λnx acc i=>rfl)]
  cases hb:badV [a,b]with
  | some e=>
    refine .inr ⟨λd hh=> ?_,e,badV_some hb,rfl⟩
    unfold badV at hb
    rw[if_pos (.inr hh.1)]at hb
    unfold badV at hb
    rw[if_pos (.inr hh.2.1)]at hb
    cases hb
  | none=>
    have hall:=badV_none hb
    have ha:=hall a (by simp)
    have hb':=hall b (by simp)
    simp only[List.map_cons,List.map_nil]
    unfold ewise_Do.k1
    rw[Vals_all ht,ob_some]
    simp only[List.map_cons,List.map_nil]
    rcases Node2 (fu:=fu) (s:=s) h (valOf_good ha) (valOf_good hb') (by omega)with⟨d,hacc,hN⟩|⟨hno,l,e,he,hN⟩
    · obtain⟨h0,h1,ho,het,hoa,hsh⟩:=hacc
      rw[valOf_type]at h0 h1 ho het hoa
      rw[valOf_type]at het
      rw[valOf_dims h0,valOf_dims h1]at hsh
      have ca:=ha.resolve_left h0
      have cb:=hb'.resolve_left h1
      refine .inl ⟨d,⟨ca,cb,ho,het,hoa,hsh⟩,?_⟩
      rw[hN,valOf_type,ob_some,if_pos rfl]
      have tw:=two_of hf ca cb hsh
      have gd:=tw.gd
      have h8:=gd.1
      have xa:=wordT wa
      have xb:=wordT wb
      show(_/\((at? [outV (outT op a.fType) d] 0).bind _)=_)∨(_/\((at? [outV (outT op a.fType) d] 0).bind _)=_)
      rw[show at? [outV (outT op a.fType) d] (0:Int)=some (outV (outT op a.fType) d)from rfl,ob_some]
      have hk:outT op a.fType=1∨outT op a.fType=7∨outT op a.fType=9:=by
        unfold outT
        split
        · exact .inr (.inr rfl)
        · exact(checkV_zero.1 ca).1
      dsimp only[outV]
      rw[New_spec (by unfold Short;omega) (by omega),ob_some,Size_spec (by unfold Short;omega) (by omega),ob_some,newV_at gd hk]
      have hz:sizeV d=(prod d,0):=by simp only[sizeV,if_pos gd]
      rw[hz]
      have ta':(canonT a).fType=a.fType:=rfl
      have tb':(canonT b).fType=a.fType:=het
      generalize hT:(if outT op a.fType=1 then((⟨outT op a.fType,d,List.replicate (prod d).toNat 0,[],[]⟩:T_Tensor),(0:Int))else if outT op a.fType=7 then(⟨outT op a.fType,d,[],List.replicate (prod d).toNat 0,[]⟩,0)else(⟨outT op a.fType,d,[],[],List.replicate (prod d).toNat false⟩,0))=T
      have hT2:T.2=0:=by
        rw[← hT]
        split
        · rfl
        · split <;> rfl
      have hTd:T.1.fDims=d:=by
        rw[← hT]
        split
        · rfl
        · split <;> rfl
      rw[if_pos hT2]
      rcases divides_spec (op:=op) (s:=s) tw hTd (show(canonT b).fType=(canonT a).fType from het)with⟨hd,he⟩|⟨hd,he⟩
      · refine .inr ⟨hd,?_⟩
        rw[he,ob_some,if_pos rfl];rfl
      · refine .inl ⟨hd,?_⟩
        rw[he,ob_some,if_neg (by decide),show ewise_kernelOf fu op s=some (op,s)from by unfold ewise_kernelOf;exact chk_pos h,ob_some,← hT]
        clear he hT hT2 hTd hN hb hall
        rcases h with rfl|rfl|rfl|rfl|rfl|rfl|rfl|rfl|rfl|rfl|rfl|rfl|rfl|rfl|rfl|rfl|rfl
        · have t:a.fType=9:=ho
          exact(lpB (op:=23) (by unfold OPB;decide) tw t (tb'.trans t)).trans (by unfold outE;rw[if_pos (by decide),if_pos (show(canonT a).fType=9 from t)])
        · have t:a.fType=9:=ho
          exact(lpB (op:=24) (by unfold OPB;decide) tw t (tb'.trans t)).trans (by unfold outE;rw[if_pos (by decide),if_pos (show(canonT a).fType=9 from t)])
        · have t:a.fType=9:=ho
          exact(lpB (op:=25) (by unfold OPB;decide) tw t (tb'.trans t)).trans (by unfold outE;rw[if_pos (by decide),if_pos (show(canonT a).fType=9 from t)])
        · rcases(ho:a.fType=1∨a.fType=7)with t|t
          · have e1:outT 28 a.fType=1:=t
            rw[e1];exact(lpF (op:=28) (by unfold OPF;decide) tw t (tb'.trans t) xa xb).trans (by unfold outE;rw[if_neg (by decide),if_pos (show(canonT a).fType=1 from t)])
          · have e1:outT 28 a.fType=7:=t
            rw[e1];exact(lpI (op:=28) (by unfold OPI;decide) tw t (tb'.trans t) (λhh=>absurd hh (by decide))).trans (by unfold outE;rw[if_neg (by decide),if_neg (by rw[ta',t];decide)])
        · rcases(ho:a.fType=1∨a.fType=7)with t|t
          · have e1:outT 29 a.fType=1:=t
            rw[e1];exact(lpF (op:=29) (by unfold OPF;decide) tw t (tb'.trans t) xa xb).trans (by unfold outE;rw[if_neg (by decide),if_pos (show(canonT a).fType=1 from t)])
          · have e1:outT 29 a.fType=7:=t
            rw[e1];exact(lpI (op:=29) (by unfold OPI;decide) tw t (tb'.trans t) (λhh=>absurd hh (by decide))).trans (by unfold outE;rw[if_neg (by decide),if_neg (by rw[ta',t];decide)])
        · rcases(ho:a.fType=1∨a.fType=7)with t|t
          · have e1:outT 30 a.fType=1:=t
            rw[e1];exact(lpF (op:=30) (by unfold OPF;decide) tw t (tb'.trans t) xa xb).trans (by unfold outE;rw[if_neg (by decide),if_pos (show(canonT a).fType=1 from t)])
          · have e1:outT 30 a.fType=7:=t
            rw[e1];exact(lpI (op:=30) (by unfold OPI;decide) tw t (tb'.trans t) (λhh=>absurd hh (by decide))).trans (by unfold outE;rw[if_neg (by decide),if_neg (by rw[ta',t];decide)])
        · rcases(ho:a.fType=1∨a.fType=7)with t|t
          · have e1:outT 31 a.fType=1:=t
            rw[e1];exact(lpF (op:=31) (by unfold OPF;decide) tw t (tb'.trans t) xa xb).trans (by unfold outE;rw[if_neg (by decide),if_pos (show(canonT a).fType=1 from t)])
          · have e1:outT 31 a.fType=7:=t
            rw[e1];exact(lpI (op:=31) (by unfold OPI;decide) tw t (tb'.trans t) (λ_ k hk h0=>hd ⟨.inl rfl,t,k,hk,h0⟩)).trans (by unfold outE;rw[if_neg (by decide),if_neg (by rw[ta',t];decide)])
        · rcases(ho:a.fType=1∨a.fType=7)with t|t
          · have e1:outT 32 a.fType=1:=t
            rw[e1];exact(lpF (op:=32) (by unfold OPF;decide) tw t (tb'.trans t) xa xb).trans (by unfold outE;rw[if_neg (by decide),if_pos (show(canonT a).fType=1 from t)])
          · have e1:outT 32 a.fType=7:=t
            rw[e1];exact(lpI (op:=32) (by unfold OPI;decide) tw t (tb'.trans t) (λ_ k hk h0=>hd ⟨.inr rfl,t,k,hk,h0⟩)).trans (by unfold outE;rw[if_neg (by decide),if_neg (by rw[ta',t];decide)])
        · have t:a.fType=1:=ho
          have e1:outT 33 a.fType=1:=t
          rw[e1];exact(lpF (op:=33) (by unfold OPF;decide) tw t (tb'.trans t) xa xb).trans (by unfold outE;rw[if_neg (by decide),if_pos (show(canonT a).fType=1 from t)])
        · rcases(ho:a.fType=1∨a.fType=7)with t|t
          · have e1:outT 34 a.fType=1:=t
            rw[e1];exact(lpF (op:=34) (by unfold OPF;decide) tw t (tb'.trans t) xa xb).trans (by unfold outE;rw[if_neg (by decide),if_pos (show(canonT a).fType=1 from t)])
          · have e1:outT 34 a.fType=7:=t
            rw[e1];exact(lpI (op:=34) (by unfold OPI;decide) tw t (tb'.trans t) (λhh=>absurd hh (by decide))).trans (by unfold outE;rw[if_neg (by decide),if_neg (by rw[ta',t];decide)])
        · rcases(ho:a.fType=1∨a.fType=7)with t|t
          · have e1:outT 35 a.fType=1:=t
            rw[e1];exact(lpF (op:=35) (by unfold OPF;decide) tw t (tb'.trans t) xa xb).trans (by unfold outE;rw[if_neg (by decide),if_pos (show(canonT a).fType=1 from t)])
          · have e1:outT 35 a.fType=7:=t
            rw[e1];exact(lpI (op:=35) (by unfold OPI;decide) tw t (tb'.trans t) (λhh=>absurd hh (by decide))).trans (by unfold outE;rw[if_neg (by decide),if_neg (by rw[ta',t];decide)])
        · have t:a.fType=1:=ho
          have e1:outT 36 a.fType=1:=t
          rw[e1];exact(lpF (op:=36) (by unfold OPF;decide) tw t (tb'.trans t) xa xb).trans (by unfold outE;rw[if_neg (by decide),if_pos (show(canonT a).fType=1 from t)])
        · rcases(ho:a.fType=1∨a.fType=7∨a.fType=9)with t|t|t
          · exact(lpT (op:=37) (by unfold OPT;decide) tw t (tb'.trans t)).trans (by unfold outE;rw[if_pos (by decide),if_neg (by rw[ta',t];decide),if_pos (show(canonT a).fType=1 from t)])
          · exact(lpC (op:=37) (by unfold OPT;decide) tw t (tb'.trans t)).trans (by unfold outE;rw[if_pos (by decide),if_neg (by rw[ta',t];decide),if_neg (by rw[ta',t];decide)])
          · exact(lpB (op:=37) (by unfold OPB;decide) tw t (tb'.trans t)).trans (by unfold outE;rw[if_pos (by decide),if_pos (show(canonT a).fType=9 from t)])
        · rcases(ho:a.fType=1∨a.fType=7)with t|t
          · exact(lpT (op:=38) (by unfold OPT;decide) tw t (tb'.trans t)).trans (by unfold outE;rw[if_pos (by decide),if_neg (by rw[ta',t];decide),if_pos (show(canonT a).fType=1 from t)])
          · exact(lpC (op:=38) (by unfold OPT;decide) tw t (tb'.trans t)).trans (by unfold outE;rw[if_pos (by decide),if_neg (by rw[ta',t];decide),if_neg (by rw[ta',t];decide)])
        · rcases(ho:a.fType=1∨a.fType=7)with t|t
          · exact(lpT (op:=39) (by unfold OPT;decide) tw t (tb'.trans t)).trans (by unfold outE;rw[if_pos (by decide),if_neg (by rw[ta',t];decide),if_pos (show(canonT a).fType=1 from t)])
          · exact(lpC (op:=39) (by unfold OPT;decide) tw t (tb'.trans t)).trans (by unfold outE;rw[if_pos (by decide),if_neg (by rw[ta',t];decide),if_neg (by rw[ta',t];decide)])
        · rcases(ho:a.fType=1∨a.fType=7)with t|t
          · exact(lpT (op:=40) (by unfold OPT;decide) tw t (tb'.trans t)).trans (by unfold outE;rw[if_pos (by decide),if_neg (by rw[ta',t];decide),if_pos (show(canonT a).fType=1 from t)])
          · exact(lpC (op:=40) (by unfold OPT;decide) tw t (tb'.trans t)).trans (by unfold outE;rw[if_pos (by decide),if_neg (by rw[ta',t];decide),if_neg (by rw[ta',t];decide)])
        · rcases(ho:a.fType=1∨a.fType=7)with t|t
          · exact(lpT (op:=41) (by unfold OPT;decide) tw t (tb'.trans t)).trans (by unfold outE;rw[if_pos (by decide),if_neg (by rw[ta',t];decide),if_pos (show(canonT a).fType=1 from t)])
          · exact(lpC (op:=41) (by unfold OPT;decide) tw t (tb'.trans t)).trans (by unfold outE;rw[if_pos (by decide),if_neg (by rw[ta',t];decide),if_neg (by rw[ta',t];decide)])
    · refine .inr ⟨fun d hh=>hno d ?_,e,he,?_⟩
      · have t0:=check_type hh.1
        have t1:=check_type hh.2.1
        refine⟨by rw[valOf_type];exact t0,by rw[valOf_type];exact t1,by rw[valOf_type];exact hh.2.2.1,by rw[valOf_type,valOf_type];exact hh.2.2.2.1,by rw[valOf_type];exact hh.2.2.2.2.1,?_⟩
        rw[valOf_dims t0,valOf_dims t1]
        exact hh.2.2.2.2.2
      · rw[hN,ob_some,if_neg he]
        rfl
end Go.Av
namespace Go.Av
theorem refSizeW_spec{fu:Nat}{l:List Int}(hp: ∀ x ∈ l,1≤x∧x≤4096)(hl:l.length≤8)(hf:l.length<fu):ref04_Size.W1 fu l 1 0=some (if prod l≤4096 then(prod l,0)else(0,4)):=by
  unfold ref04_Size.W1
  refine(cloop_ind (λ(s:Int×Int)=>some (if s.1*prod (l.drop s.2.toNat)<=4096 then(s.1*prod (l.drop s.2.toNat),0)else(0,4))) (λs=>0<=s.2/\s.2<=l.length/\1<=s.1/\s.1<=4096) (λs=>l.length - s.2.toNat) ?_ fu (1,0) (by simp) (by simp;omega)).trans (by simp)
  rintro⟨m,i⟩ ⟨h0,h1,h2,h3⟩ next hn
  simp only at h0 h1 h2 h3 hn ⊢
  obtain⟨k,rfl⟩:=Int.eq_ofNat_of_zero_le h0
  unfold ref04_Size.L1 ref04_Size.k2;try unfold jn
  simp only[Int.toNat_natCast]
  by_cases hk:k<l.length
  · obtain⟨q1,q2⟩:=hp _ (List.getElem_mem hk)
    have hge:1<=m*l[k]:=by have:=Int.mul_le_mul h2 q1 (by decide) (by omega);simpa using this
    have hle:m*l[k]<=4096*4096:=Int.mul_le_mul h3 q2 (by omega) (by decide)
    rw[if_pos (by omega),at?_get hk,ob_some,if_neg (by omega),ob_some,wk_eq (x:=m*l[k]) (by omega) (by omega),List.drop_eq_getElem_cons hk]
    have hpos:1<=prod (l.drop (k+1)):=prod_pos λx hx=>(hp x (List.mem_of_mem_drop hx)).1
    simp only[prod,← Int.mul_assoc]
    by_cases hd:4096<m*l[k]
    · rw[if_pos hd]
      have:m*l[k]*1<=m*l[k]*prod (l.drop (k+1)):=Int.mul_le_mul_of_nonneg_left hpos (by omega)
      rw[if_neg (by omega)]
    · rw[if_neg hd]
      rw[wk_succ (by omega),hn (m*l[k],((k+1:Nat):Int)) ⟨by simp only[];omega,by simp only[];omega,hge,by simp only[];omega⟩ (by simp;omega)]
      simp
  · rw[if_neg (by omega),List.drop_of_length_le (by omega)]
    simp only[prod,Int.mul_one]
    rw[if_pos h3]
theorem refSize_spec{fu:Nat}{l:List Int}(hl:Short l)(hf:l.length<fu):ref04_Size fu l=some (sizeV l):=by
  unfold ref04_Size ref04_Size.W2;try unfold jn
  refine(cloop_ind (λ(s:Bool×Bool×Int)=>cond ((l.drop s.2.2.toNat).any (λx=>decide (x<0))) (some (0,1)) (ref04_Size.k1 fu l (s.1 || (l.drop s.2.2.toNat).any (λx=>decide (x=0))) (s.2.1 || (l.drop s.2.2.toNat).any (λx=>decide (4096<x))))) (λs=>0<=s.2.2/\s.2.2<=l.length) (λs=>l.length - s.2.2.toNat) ?_ fu _ (by simp) (by simp;omega)).trans ?_
  · rintro⟨z,b,i⟩ ⟨h0,h1⟩ next hn
    simp only at h0 h1 hn ⊢
    obtain⟨k,rfl⟩:=Int.eq_ofNat_of_zero_le h0
    unfold ref04_Size.L2;try unfold jn
    simp only[Int.toNat_natCast]
    by_cases hk:k<l.length
    · rw [if_pos (by omega),at?_get hk,ob_some,List.drop_eq_getElem_cons hk]
      simp only[List.any_cons]
      by_cases h2:l[k]<0
      · rw[if_pos h2];simp[h2]
      · rw[if_neg h2]
        have hx:=λz' b'=>hn (z',b',((k+1:Nat):Int)) (by simp only[];omega) (by simp;omega)
        simp only[Int.toNat_natCast]at hx
        have hz:(if z=true then ref04_Size.k3 fu (fun x13 x14 x15=>next (x13,x14,x15)) b (k:Int) l[k] true else ref04_Size.k3 fu (fun x13 x14 x15=>next (x13,x14,x15)) b (k:Int) l[k] (decide (l[k]=0)))=next (z || decide (l[k]=0),b || decide (4096<l[k]),wk .i64 ((k:Int)+1)):=by
          unfold ref04_Size.k3
          cases z <;> cases b <;> simp
        rw[hz,wk_succ (by unfold Short at hl;omega),hx]
        simp only[Bool.or_assoc]
        simp[h2]
    · rw[if_neg (by omega),List.drop_of_length_le (by omega)]
      simp
  · simp only[Int.toNat_zero,List.drop_zero,Bool.false_or]
    by_cases h1:l.any (λx=>decide (x<0))=true
    · rw[h1,cond_true]
      have hg: ¬ Good l:=fun hg=>by
        obtain⟨x,hx,hx2⟩:=List.any_eq_true.1 h1
        have:=(hg.2.1 x hx).1
        simp at hx2;omega
      simp only[sizeV,if_neg hg,errS,if_pos h1]
    have h1':l.any (λx=>decide (x<0))=false:=by simpa using h1
    rw[h1',cond_false]
    have he:errS l=4:=by simp only[errS,if_neg h1]
    unfold ref04_Size.k1
    by_cases h2:(decide (8<(l.length:Int)) || l.any λx=>decide (4096<x))=true
    · rw [if_pos h2]
      have hg: ¬ Good l:=fun hg=>by
        rcases Bool.or_eq_true_iff.1 h2 with h3|h3
        · have:=hg.1;simp at h3;omega
        · obtain⟨x,hx,hx2⟩:=List.any_eq_true.1 h3
          have:=(hg.2.1 x hx).2
          simp at hx2;omega
      simp only[sizeV,if_neg hg,he]
    rw[if_neg h2]
    simp only[Bool.or_eq_true,decide_eq_true_eq,List.any_eq_true,not_or,not_exists,not_and]at h1 h2
    have hr:Rng l:=λx hx=>by have:=h1 x hx;have:=h2.2 x hx;omega
    by_cases h4:(l.any λx=>decide (x=0))=true
    · rw[if_pos h4]
      have hz:(0:Int) ∈ l:=by
        obtain⟨x,hx,hx2⟩:=List.any_eq_true.1 h4
        simp at hx2;subst hx2;exact hx
      have hg:Good l:=⟨by omega,hr,by rw[prod_zero hz];decide⟩
      simp only[sizeV,if_pos hg,prod_zero hz]
    rw[if_neg h4]
    have hp: ∀ x ∈ l,1≤x∧x≤4096:=fun x hx=>by
      have:=hr x hx
      simp only[List.any_eq_true,decide_eq_true_eq,not_exists,not_and]at h4
      have:=h4 x hx;omega
    rw[refSizeW_spec hp (by omega) hf]
    by_cases h5:prod l<=4096
    · have hg:Good l:=⟨by omega,hr,h5⟩
      simp only[sizeV,if_pos hg,if_pos h5]
    · have hg: ¬ Good l:=fun hg=>h5 hg.2.2
      simp only[sizeV,if_neg hg,if_neg h5,he]
theorem refKnown_spec{fu:Nat}{k:Int}:ref05_Known fu k=some (decide (k=1∨k=7∨k=9)):=by
  unfold ref05_Known
  by_cases h1:k=1
  · simp[h1]
  · by_cases h2:k=7
    · simp[h2]
    · by_cases h3:k=9 <;> simp[h1,h2,h3]
theorem refCheck_spec{fu:Nat}{t:T_Tensor}(hs:Small t)(hf:Fuel fu t):ref05_Check fu t=some (checkV t):=by
  obtain⟨s1,s2,s3,s4⟩:=hs
  unfold ref05_Check checkV;try unfold jn
  rw[refKnown_spec,ob_some,refSize_spec (by unfold Short;omega) hf.1]
  by_cases hk:Known t.fType
  · rw [if_pos (by simpa[Known]using hk),ob_some,if_pos hk]
    simp only[sizeV]
    by_cases hg:Good t.fDims
    · simp only[if_pos hg,if_true]
      unfold ref05_Check.k1 LensOK
      have key: ∀ a b c:Int,(if(t.fF.length:Int)=a then(if(t.fI.length:Int)=b then(if(t.fB.length:Int)=c then(some 0:Option Int)else some 3)else some 3)else some 3)=some (if(t.fF.length:Int)=a∧(t.fI.length:Int)=b∧(t.fB.length:Int)=c then 0 else 3):=fun a b c=>by
        by_cases h1:(t.fF.length:Int)=a <;> by_cases h2:(t.fI.length:Int)=b <;> by_cases h3:(t.fB.length:Int)=c <;> simp[h1,h2,h3]
      rcases hk with e|e|e
      · simp only[e,show ¬ (1:Int)=7 by decide,show ¬ (1:Int)=9 by decide,if_false,if_true,key]
      · simp only[e,show ¬ (7:Int)=1 by decide,show ¬ (7:Int)=9 by decide,if_false,if_true,key]
      · simp only[e,show ¬ (9:Int)=1 by decide,show ¬ (9:Int)=7 by decide,if_false,if_true,key]
    · simp only[if_neg hg]
      rw[if_neg (errS_ne _)]
  · rw[if_neg (by simpa[Known]using hk),if_neg hk]
end Go.Av
set_option linter.unusedSimpArgs false
namespace Go.Av
theorem wk_idem(x:Int):wk .i64 (wk .i64 x)=wk .i64 x:=by
  have:=wk_mul_l x 1
  simpa using this
theorem wk_hor(y p f:Int):wk .i64 (wk .i64 y*p+f)=wk .i64 (y*p+f):=by
  rw[← wk_add_l (wk .i64 y*p),wk_mul_l,wk_add_l]
theorem idx_step{a d P:Int}(ha:0≤a)(hd:1≤d)(hP:1≤P):a%(d*P) / P=a / P%d∧a%(d*P)%P=a%P:=by
  have h1:=Int.mul_ediv_add_emod a (d*P)
  have hdP:0<d*P:=Int.mul_pos (by omega) (by omega)
  have hr:=Int.emod_nonneg a (b:=d*P) (by omega)
  have hr2:=Int.emod_lt_of_pos a hdP
  generalize a%(d*P)=r at h1 hr hr2 ⊢
  generalize a / (d*P)=q at h1
  have e:a=r+P*(d*q):=by rw[← h1,Int.mul_comm d P,Int.mul_assoc,Int.add_comm]
  have hq:r / P<d:=Int.ediv_lt_of_lt_mul (by omega) hr2
  have hq0:0<=r / P:=Int.ediv_nonneg hr (by omega)
  rw[e,Int.add_mul_ediv_left _ _ (by omega:P≠0),Int.add_mul_emod_self_left,Int.add_mul_emod_self_left,Int.emod_eq_of_lt hq0 hq]
  exact⟨rfl,rfl⟩
theorem refIndexW_spec{fu:Nat}{l:List Int}{a:Int}(hg:Good l)(hn0:1≤prod l)(ha:0≤a)(ha2:a<prod l)(hf:l.length<fu):ref04_Index.W1 fu l (List.replicate l.length 0) a (wk .i64 ((l.length:Int) - 1))=some (idxV l a,0):=by
  have hp:=pos_of_good hg (by omega)
  have hd:=prod_drop_le hp
  have h8:=hg.1
  have hP:=hg.2.2
  rw[wk_eq (by omega) (by omega)]
  unfold ref04_Index.W1
  refine cloop_ind (λ_=>some (idxV l a,(0:Int))) (λ(s:List Int×Int×Int)=> ∃ k:Nat,k<=l.length/\s=(List.replicate k 0++idxV (l.drop k) (a%prod (l.drop k)),a / prod (l.drop k),(k:Int) - 1)) (λs=>(s.2.2+1).toNat) ?_ fu _ ⟨l.length,Nat.le_refl _,by simp[idxV,prod]⟩ (by simp;omega)
  rintro _ ⟨k,hk,rfl⟩ next hn
  unfold ref04_Index.L1
  simp only
  match k,hk with
  | 0,_=>
    rw[if_neg (by decide)]
    simp only[List.replicate_zero,List.nil_append,List.drop_zero]
    rw[Int.emod_eq_of_lt ha ha2]
  | k+1,hk=>
    have e1:(((k+1:Nat):Int) - 1)=(k:Int):=by omega
    have hlen:(List.replicate (k+1) (0:Int)++idxV (l.drop (k+1)) (a%prod (l.drop (k+1)))).length=l.length:=by simp[idxV_length];omega
    have hq:=hp l[k] (List.getElem_mem _)
    have hr:=(hg.2.1 l[k] (List.getElem_mem _)).2
    obtain⟨d1,d2⟩:=hd (k+1)
    have q0:0<=a / prod (l.drop (k+1)):=Int.ediv_nonneg ha (by omega)
    have q1:a / prod (l.drop (k+1))<=a:=Int.ediv_le_self _ ha
    have q2:0<=a / prod (l.drop (k+1)) / l[k]:=Int.ediv_nonneg q0 (by omega)
    have q3:a / prod (l.drop (k+1)) / l[k]<=a / prod (l.drop (k+1)):=Int.ediv_le_self _ q0
    rw[e1,if_pos (by omega),hlen,at?_get (by omega),ob_some,chk_pos (by omega),chk_pos (by omega),Int.toNat_natCast,rep_set]
    rw[Int.tdiv_eq_ediv_of_nonneg q0,Int.tmod_eq_emod_of_nonneg q0,wk_eq (by omega) (by omega),wk_eq (x:=(k:Int) - 1) (by omega) (by omega)]
    refine hn _ ⟨k,by omega,?_⟩ (by simp)
    rw[List.drop_eq_getElem_cons (by omega:k<l.length)]
    obtain⟨s1,s2⟩:=idx_step (P:=prod (l.drop (k+1))) ha hq d1
    simp only[prod,idxV,s1,s2]
    rw[Int.ediv_ediv_of_nonneg (by omega),Int.mul_comm]
theorem refIndex_spec{fu:Nat}{l:List Int}{a:Int}(hl:Short l)(hf:l.length<fu):ref04_Index fu l a=some (indexV l a):=by
  unfold ref04_Index;try unfold jn
  rw[refSize_spec hl hf,ob_some]
  simp only[sizeV,indexV]
  by_cases hg:Good l
  · simp only[if_pos hg,if_true]
    by_cases h1:a<0
    · rw[if_pos h1,if_neg (by omega)]
    · rw[if_neg h1]
      by_cases h2:prod l<=a
      · rw[if_pos h2,if_neg (by omega)]
      · rw[if_neg h2,if_pos (by omega)]
        unfold ref04_Index.k1
        have:=hg.1
        rw[chk_pos (by omega),Int.toNat_natCast,refIndexW_spec hg (by omega) (by omega) (by omega) hf]
  · simp only[if_neg hg]
    rw[if_neg (errS_ne l)]
end Go.Av
set_option linter.unusedSimpArgs false
namespace Go.Av
theorem refNew_spec{fu:Nat}{k:Int}{d:List Int}(hd:Short d)(hf:d.length<fu):ref05_New fu k d=some (newV k d):=by
  unfold ref05_New newV
  rw[refKnown_spec,ob_some,refSize_spec hd hf,ob_some]
  by_cases hk:k=1∨k=7∨k=9
  · rw [if_pos (by simpa using hk),if_pos hk]
    simp only[sizeV]
    by_cases hg:Good d
    · simp only[if_pos hg,if_true]
      have h1:=prod_nonneg hg.2.1
      have h2:=hg.2.2
      have h3:=hg.1
      rw[chk_pos (by omega),chk_pos (by omega),chk_pos (by omega),chk_pos (by omega)]
      by_cases e1:k=1
      · rw[if_pos e1,if_pos e1]
      · rw[if_neg e1,if_neg e1]
        by_cases e2:k=7
        · rw[if_pos e2,if_pos e2]
        · rw[if_neg e2,if_neg e2]
    · simp only[if_neg hg]
      rw[if_neg (errS_ne d)]
      rfl
  · rw[if_neg (by simpa using hk),if_neg hk]
    rfl
theorem pick_loop{σ α β:Type}(st:List α→Nat→σ){B:(σ→Option β)→σ→Option β}{at_:List Int}(bad:Int→Bool)(pk:Int→α)(z:α){e:Option β}{c:List α→Option β}
    (hB: ∀ (next:σ->Option β) (k:Nat) (m:List α) (hk:k<at_.length),m.length=at_.length->B next (st m k)=if bad at_[k]=true then e else next (st (if 0<=at_[k]then m.set k (pk at_[k])else m) (k+1)))
    (hE: ∀ (next:σ->Option β) (m:List α),m.length=at_.length->B next (st m at_.length)=c m) (hz: ∀ a,¬ 0<=a->pk a=z) {fu:Nat} (hf:at_.length<fu):
    cloop B fu (st (List.replicate at_.length z) 0)=if at_.any bad=true then e else c (at_.map pk):=by
  have key : ∀ (f k:Nat),k≤at_.length→at_.length - k<f→cloop B f (st ((at_.take k).map pk++List.replicate (at_.length - k) z) k)=if(at_.drop k).any bad=true then e else c (at_.map pk):=by
    intro f
    induction f with
    |zero=>intro k _ h;omega
    | succ f ih=>
      intro k hk hf
      by_cases hkn:k=at_.length
      · subst hkn
        show B _ _=_
        have:=hE (cloop B f) ((at_.take at_.length).map pk++List.replicate (at_.length - at_.length) z) (by simp)
        rw[this]
        simp
      · have hk':k<at_.length:=by omega
        show B _ _=_
        rw[hB _ _ _ hk' (by simp;omega),List.drop_eq_getElem_cons hk',List.any_cons]
        by_cases hb:bad at_[k]=true
        · simp[hb]
        · rw [if_neg hb]
          have hm:(if 0≤at_[k]then((at_.take k).map pk++List.replicate (at_.length - k) z).set k (pk at_[k])else(at_.take k).map pk++List.replicate (at_.length - k) z)=(at_.take (k+1)).map pk++List.replicate (at_.length - (k+1)) z:=by
            have hr:List.replicate (at_.length - k) z=z::List.replicate (at_.length - (k+1)) z:=by rw[show at_.length - k=at_.length - (k+1)+1 by omega,List.replicate_succ]
            have ht:at_.take (k+1)=at_.take k++[at_[k]]:=by rw[List.take_add_one,List.getElem?_eq_getElem hk'];rfl
            have hlen:((at_.take k).map pk).length=k:=by simp;omega
            rw[hr,ht,List.map_append,List.append_assoc]
            split
            · rw[List.set_append_right _ _ (by omega),hlen,Nat.sub_self]
              rfl
            · rename_i h0
              rw[List.map_singleton,hz _ h0]
              rfl
          rw[hm,ih (k+1) (by omega) (by omega)]
          simp[hb]
  have:=key fu 0 (by omega) (by omega)
  simpa using this
def badP(N:Int)(x:Int):Bool:=decide (x< -1) || decide (N<=x)
def pkOf{α:Type}(src:List α)(z:α)(a:Int):α:=if 0<=a then src.getD a.toNat z else z
def pickV(t:T_Tensor)(d l:List Int):T_Tensor×Int:=
  if checkV t=0 then(if(newV t.fType d).2=0 then(if(l.length:Int)=prod d then(if l.any (badP (t.fF.length+t.fI.length+t.fB.length))=true then(noT,2)else
    (if t.fType=1 then⟨t.fType,d,l.map (pkOf t.fF 0),[],[]⟩else if t.fType=7 then⟨t.fType,d,[],l.map (pkOf t.fI 0),[]⟩else⟨t.fType,d,[],[],l.map (pkOf t.fB false)⟩,0))else(noT,3))else(noT,(newV t.fType d).2))else(noT,checkV t)
theorem at?_pk{α:Type}{src:List α}{z:α}{a:Int}(h0:0≤a)(h:a<src.length):at? src a=some (pkOf src z a):=by
  obtain⟨k,rfl⟩:=Int.eq_ofNat_of_zero_le h0
  rw[at?_get (by omega),pkOf,if_pos h0,List.getD_eq_getElem?_getD,Int.toNat_natCast,List.getElem?_eq_getElem (by omega)]
  rfl
theorem pkOf_neg{α:Type}{src:List α}{z:α}{a:Int}(h: ¬ 0<=a):pkOf src z a=z:=if_neg h
theorem newV_ok{k:Int}{d:List Int}(h:(newV k d).2=0):Known k∧Good d∧newV k d=(if k=1 then(⟨k,d,List.replicate (prod d).toNat 0,[],[]⟩,0)else if k=7 then(⟨k,d,[],List.replicate (prod d).toNat 0,[]⟩,0)else(⟨k,d,[],[],List.replicate (prod d).toNat false⟩,0)):=by
  unfold newV at h ⊢
  by_cases hk:k=1∨k=7∨k=9
  · rw[if_pos hk]at h ⊢
    by_cases hg:Good d
    · rw[if_pos hg]
      exact⟨hk,hg,rfl⟩
    · rw[if_neg hg]at h
      exact absurd h (errS_ne d)
  · rw[if_neg hk]at h
    cases h
theorem sumW{a b c:Nat}(h1:a≤140737488355328)(h2:b≤140737488355328)(h3:c≤140737488355328):wk .i64 ((wk .i64 ((a:Int)+(b:Int)))+(c:Int))=(a:Int)+b+c:=by
  rw[wk_add_l,wk_eq (by omega) (by omega)]
theorem refPick_spec{fu:Nat}{t:T_Tensor}{d l:List Int}(hs:Small t)(hf:Fuel fu t)(hd:Short d)(hfd:d.length<fu)(hl:Short l)(hfl:l.length<fu):ref05_Pick fu t d l=some (pickV t d l):=by
  unfold ref05_Pick pickV
  rw[refCheck_spec hs hf,ob_some]
  by_cases hc:checkV t=0
  · rw [if_pos hc,if_pos hc,refNew_spec hd hfd,ob_some]
    obtain⟨_,hg0,hlen⟩:=checkV_zero.1 hc
    obtain⟨s1,s2,s3,s4⟩:=hs
    by_cases hn:(newV t.fType d).2=0
    · obtain ⟨hk,hg,e⟩:=newV_ok hn
      rw[if_pos hn,if_pos hn,refSize_spec hd hfd,ob_some]
      have hpn:=prod_nonneg hg.2.1
      have hp4:=hg.2.2
      unfold Short at hl
      simp only[sizeV,if_pos hg]
      by_cases hll:(l.length:Int)=prod d
      · rw [if_pos hll,if_pos hll]
        have hnl:(prod d).toNat=l.length:=by omega
        have hN:wk .i64 ((wk .i64 ((t.fF.length:Int)+(t.fI.length:Int)))+(t.fB.length:Int))=t.fF.length+t.fI.length+t.fB.length:=sumW (by omega) (by omega) (by omega)
        obtain⟨l1,l2,l3⟩:=hlen
        have hbad: ∀ {k:Nat} (hk:k<l.length) {R:Option (T_Tensor×Int)},(if l[k]< -1 then some (noT,(2:Int))else if(t.fF.length:Int)+t.fI.length+t.fB.length≤l[k]then some (noT,2)else R)=if badP (t.fF.length+t.fI.length+t.fB.length) l[k]=true then some (noT,2)else R:=fun {k} hk {R}=>by
          unfold badP
          by_cases h1:l[k]< -1
          · simp[h1]
          · by_cases h2:(t.fF.length:Int)+t.fI.length+t.fB.length<=l[k] <;> simp[h1,h2]
        have hwrap: ∀ {a b:T_Tensor×Int},(if(l.any (badP (t.fF.length+t.fI.length+t.fB.length))=true)then(some a)else some b)=some (if(l.any (badP (t.fF.length+t.fI.length+t.fB.length))=true)then a else b):=λ {a b}=>by split <;> rfl
        rcases hk with e1|e1|e1
        · rw [e1]at e
          simp only[if_true]at e
          simp only[e1,e,if_true,show ¬ (1:Int)=7 by decide,show ¬ (1:Int)=9 by decide,if_false,hnl]at l1 l2 l3 ⊢
          unfold ref05_Pick.W1
          refine(pick_loop (λ(m:List Int) (k:Nat)=>(m,([]:List Int),([]:List Bool),(k:Int))) (badP (t.fF.length+t.fI.length+t.fB.length)) (pkOf t.fF 0) 0 (e:=some (noT,2)) (c:=λm=>some (⟨1,d,m,[],[]⟩,0)) ?_ ?_ (λa=>pkOf_neg) hfl).trans hwrap
          · intro next k m hk hm
            unfold ref05_Pick.L1;try unfold jn
            simp only[]
            rw[hN,if_pos (by omega),at?_get hk,ob_some]
            refine Eq.trans (hbad hk) ?_
            by_cases hb:badP (t.fF.length+t.fI.length+t.fB.length) l[k]=true
            · rw[if_pos hb,if_pos hb]
            · rw[if_neg hb,if_neg hb]
              unfold ref05_Pick.k1 ref05_Pick.c2 jc
              have hnb: -1≤l[k]∧l[k]<(t.fF.length:Int)+t.fI.length+t.fB.length:=by
                simp only[badP,Bool.or_eq_true,decide_eq_true_eq]at hb;omega
              simp only[Int.toNat_natCast]
              rw[at?_get hk,ob_some,wk_succ (by omega)]
              by_cases ha:0<=l[k]
              · rw[if_pos ha,if_pos ha,if_pos trivial,at?_pk (z:=0) ha (by omega),ob_some,chk_pos (by omega),chk_pos (by simp),chk_pos trivial,chk_pos trivial]
              · rw[if_neg ha,if_neg ha]
          · intro next m hm
            unfold ref05_Pick.L1;try unfold jn
            rw[if_neg (by simp only[];omega)]
        · rw [e1]at e
          simp only[show ¬ (7:Int)=1 by decide,if_false,if_true]at e
          simp only[e1,e,if_true,show ¬ (7:Int)=1 by decide,show ¬ (7:Int)=9 by decide,if_false,hnl]at l1 l2 l3 ⊢
          unfold ref05_Pick.W1
          refine(pick_loop (λ(m:List Int) (k:Nat)=>(([]:List Int),m,([]:List Bool),(k:Int))) (badP (t.fF.length+t.fI.length+t.fB.length)) (pkOf t.fI 0) 0 (e:=some (noT,2)) (c:=λm=>some (⟨7,d,[],m,[]⟩,0)) ?_ ?_ (λa=>pkOf_neg) hfl).trans hwrap
          · intro next k m hk hm
            unfold ref05_Pick.L1;try unfold jn
            simp only[]
            rw[hN,if_pos (by omega),at?_get hk,ob_some]
            refine Eq.trans (hbad hk) ?_
            by_cases hb:badP (t.fF.length+t.fI.length+t.fB.length) l[k]=true
            · rw[if_pos hb,if_pos hb]
            · rw[if_neg hb,if_neg hb]
              unfold ref05_Pick.k1 ref05_Pick.c2 jc
              have hnb: -1≤l[k]∧l[k]<(t.fF.length:Int)+t.fI.length+t.fB.length:=by
                simp only[badP,Bool.or_eq_true,decide_eq_true_eq]at hb;omega
              simp only[Int.toNat_natCast]
              rw[at?_get hk,ob_some,wk_succ (by omega)]
              by_cases ha:0<=l[k]
              · rw[if_pos ha,if_pos ha,if_neg (by decide),if_pos trivial,at?_pk (z:=0) ha (by omega),ob_some,chk_pos (by omega),chk_pos trivial,chk_pos (by simp),chk_pos trivial]
              · rw[if_neg ha,if_neg ha]
          · intro next m hm
            unfold ref05_Pick.L1;try unfold jn
            rw[if_neg (by simp only[];omega)]
        · rw [e1]at e
          simp only[show ¬ (9:Int)=1 by decide,show ¬ (9:Int)=7 by decide,if_false]at e
          simp only[e1,e,if_true,show ¬ (9:Int)=1 by decide,show ¬ (9:Int)=7 by decide,if_false,hnl]at l1 l2 l3 ⊢
          unfold ref05_Pick.W1
          refine(pick_loop (λ(m:List Bool) (k:Nat)=>(([]:List Int),([]:List Int),m,(k:Int))) (badP (t.fF.length+t.fI.length+t.fB.length)) (pkOf t.fB false) false (e:=some (noT,2)) (c:=λm=>some (⟨9,d,[],[],m⟩,0)) ?_ ?_ (λa=>pkOf_neg) hfl).trans hwrap
          · intro next k m hk hm
            unfold ref05_Pick.L1;try unfold jn
            simp only[]
            rw[hN,if_pos (by omega),at?_get hk,ob_some]
            refine Eq.trans (hbad hk) ?_
            by_cases hb:badP (t.fF.length+t.fI.length+t.fB.length) l[k]=true
            · rw[if_pos hb,if_pos hb]
            · rw[if_neg hb,if_neg hb]
              unfold ref05_Pick.k1 ref05_Pick.c2 jc
              have hnb: -1≤l[k]∧l[k]<(t.fF.length:Int)+t.fI.length+t.fB.length:=by
                simp only[badP,Bool.or_eq_true,decide_eq_true_eq]at hb;omega
              simp only[Int.toNat_natCast]
              rw[at?_get hk,ob_some,wk_succ (by omega)]
              by_cases ha:0<=l[k]
              · rw[if_pos ha,if_pos ha,if_neg (by decide),if_neg (by decide),at?_pk (z:=false) ha (by omega),ob_some,chk_pos (by omega),chk_pos trivial,chk_pos trivial,chk_pos (by simp)]
              · rw[if_neg ha,if_neg ha]
          · intro next m hm
            unfold ref05_Pick.L1;try unfold jn
            rw[if_neg (by simp only[];omega)]
      · rw[if_neg hll,if_neg hll];rfl
    · rw[if_neg hn,if_neg hn];rfl
  · rw[if_neg hc,if_neg hc];rfl
end Go.Av
set_option linter.unusedSimpArgs false
namespace Go.Av
def pad(n:Nat)(l:List Int):List Int:=List.replicate (n - l.length) 1++l
theorem pad_length{n:Nat}{l:List Int}(h:l.length<=n):(pad n l).length=n:=by simp[pad];omega
theorem zipB_pad: ∀ (k:Nat) {p a b:List Int},p.length=k→zipB (p++a) (List.replicate k 1++b)=(zipB a b).map (p++ ·)
  | 0,p,a,b,h=>by
    have:p=[]:=List.length_eq_zero_iff.1 h
    subst this
    simp
  |k+1,[],a,b,h=>by simp at h
  | k+1,x::p,a,b,h=>by
    have ih:=zipB_pad k (p:=p) (a:=a) (b:=b) (by simpa using h)
    simp only[List.replicate_succ,List.cons_append,zipB,ih]
    by_cases h1:x=1
    · subst h1;rw[if_pos rfl];cases zipB a b <;> rfl
    · simp only[h1,if_false,true_or,if_true];cases zipB a b <;> rfl
theorem bc'_pad{a b:List Int}(h:b.length≤a.length):bc' a b=zipB a (pad a.length b):=by
  unfold bc' pad
  have:=zipB_pad (a.length - b.length) (p:=a.take (a.length - b.length)) (a:=a.drop (a.length - b.length)) (b:=b) (by simp)
  rw[List.take_append_drop]at this
  exact this.symm
theorem pad_self{l:List Int}:pad l.length l=l:=by simp[pad]
theorem bc_pad{a b:List Int}{n:Nat}(hn:n=max a.length b.length):bc a b=zipB (pad n a) (pad n b):=by
  unfold bc
  by_cases h:a.length<b.length
  · have:n=b.length:=by omega
    subst this
    rw[if_pos h,bc'_pad (by omega),pad_self]
    exact zipB_comm (by rw[pad_length (by omega)])
  · have:n=a.length:=by omega
    subst this
    rw[if_neg h,bc'_pad (by omega),pad_self]
theorem zipB_none: ∀ (k:Nat) {a b:List Int},a.length=b.length→zipB (a.drop k) (b.drop k)=none→zipB a b=none
  |0,a,b,hl,h=>by simpa using h
  |k+1,[],[],hl,h=>by simp[zipB]at h
  | k+1,x::a,d::b,hl,h=>by
    have:=zipB_none k (a:=a) (b:=b) (by simpa using hl) (by simpa using h)
    simp[zipB,this]
theorem dim_spec{fu n:Nat}{l:List Int}{i:Nat}(hl:l.length≤n)(h8:n≤8)(hi:i<n):ref04_dim fu l (i:Int)=(pad n l)[n - 1 - i]? :=by
  unfold ref04_dim pad
  by_cases h:(l.length:Int)<=i
  · rw[if_pos h,List.getElem?_append_left (by simp;omega),List.getElem?_replicate,if_pos (by omega)]
  · rw[if_neg h,List.getElem?_append_right (by simp;omega),wk_eq (x:=(l.length:Int) - 1) (by omega) (by omega),wk_eq (by omega) (by omega)]
    have e:(l.length:Int) - 1 - (i:Int)=((l.length - 1 - i:Nat):Int):=by omega
    rw[e,at?_nat,List.length_replicate,show n - 1 - i - (n - l.length)=l.length - 1 - i by omega]
    cases l[l.length - 1 - i]? <;> rfl
theorem imax_len{a b:List Int}:imax (a.length:Int) (b.length:Int)=((max a.length b.length:Nat):Int):=by
  unfold imax
  by_cases h:a.length<b.length
  · rw[if_pos (by omega)];omega
  · rw[if_neg (by omega)];omega
theorem refB_k1{fu:Nat}{l:List Int}(hl:Short l)(hf:l.length<fu):ref04_Broadcast.k1 fu l=some (if Good l then(l,0)else([],errS l)):=by
  unfold ref04_Broadcast.k1
  rw[refSize_spec hl hf,ob_some]
  simp only[sizeV]
  by_cases hg:Good l
  · simp only[if_pos hg,if_true]
  · simp only[if_neg hg]
    rw[if_neg (errS_ne l)]
theorem refBW_spec{fu n:Nat}{a b:List Int}(hn:n=max a.length b.length)(h8:n≤8)(hf:9<fu):ref04_Broadcast.W1 fu a b (List.replicate n 0) 0=some (match bc a b with
    |some l=>if Good l then(l,0)else([],errS l)
    |none=>([],3)):=by
  rw[bc_pad hn]
  have la:=pad_length (n:=n) (l:=a) (by omega)
  have lb:=pad_length (n:=n) (l:=b) (by omega)
  unfold ref04_Broadcast.W1
  refine cloop_ind (fun _=>some (match zipB (pad n a) (pad n b)with
    |some l=>if Good l then(l,0)else([],errS l)
    |none=>([],3))) (λ(s:List Int×Int)=> ∃ i:Nat,i<=n/\s.2=i/\ ∃ t,zipB ((pad n a).drop (n - i)) ((pad n b).drop (n - i))=some t/\t.length=i/\s.1=List.replicate (n - i) 0++t) (λs=>n - s.2.toNat) ?_ fu (List.replicate n 0,0) ⟨0,by omega,rfl,[],by rw[List.drop_of_length_le (by omega),List.drop_of_length_le (by omega)];rfl,rfl,by simp⟩ (by simp;omega)
  rintro⟨o,q⟩ ⟨i,hi,rfl,t,ht,htl,rfl⟩ next hnx
  simp only at hnx ⊢
  unfold ref04_Broadcast.L1 ref04_Broadcast.k2 ref04_Broadcast.k3;(try unfold jn)
  simp only[imax_len,← hn]
  by_cases hin:i<n
  · have ka:n - 1 - i<(pad n a).length:=by omega
    have kb:n - 1 - i<(pad n b).length:=by omega
    rw[if_pos (by omega),dim_spec (n:=n) (by omega) h8 hin,List.getElem?_eq_getElem ka,ob_some,dim_spec (n:=n) (by omega) h8 hin,List.getElem?_eq_getElem kb,ob_some]
    rw[wk_eq (x:=(n:Int) - 1) (by omega) (by omega),wk_eq (x:=(n:Int) - 1 - (i:Int)) (by omega) (by omega)]
    have e:(n:Int) - 1 - (i:Int)=((n - 1 - i:Nat):Int):=by omega
    have e2:n - i=(n - 1 - i)+1:=by omega
    rw[e2]at ht
    have hz:zipB ((pad n a).drop (n - 1 - i)) ((pad n b).drop (n - 1 - i))=if(pad n a)[n - 1 - i]=1 then some ((pad n b)[n - 1 - i]::t)else if(pad n b)[n - 1 - i]=1∨(pad n b)[n - 1 - i]=(pad n a)[n - 1 - i]then some ((pad n a)[n - 1 - i]::t)else none:=by
      rw[List.drop_eq_getElem_cons ka,List.drop_eq_getElem_cons kb]
      simp only[zipB,ht,Option.map_some]
    have hlen:(List.replicate (n - 1 - i+1) (0:Int)++t).length=n:=by simp;omega
    rw[e,e2,hlen,Int.toNat_natCast,wk_succ (by omega),rep_set,rep_set,chk_pos (by omega),chk_pos (by omega)]
    generalize (pad n a)[n - 1 - i]=x at hz ⊢
    generalize (pad n b)[n - 1 - i]=d at hz ⊢
    have e3:n - (i+1)=n - 1 - i:=by omega
    have hgo: ∀ y,zipB ((pad n a).drop (n - 1 - i)) ((pad n b).drop (n - 1 - i))=some (y::t)→next (List.replicate (n - 1 - i) 0++y::t,((i+1:Nat):Int))=_:=fun y hy=>
      hnx (List.replicate (n - 1 - i) 0++y::t,((i+1:Nat):Int)) ⟨i+1,by omega,rfl,y::t,by rw[e3];exact hy,by simp[htl],by rw[e3]⟩ (by simp;omega)
    have hbad: ¬ x=d→ ¬ x=1→ ¬ d=1→zipB (pad n a) (pad n b)=none:=fun h1 h2 h3=>by
      refine zipB_none (n - 1 - i) (by omega) ?_
      rw[hz,if_neg h2,if_neg (λh=>h.elim h3 λh=>h1 h.symm)]
    by_cases h1:x=1
    · rw[if_pos h1]at hz
      by_cases h2:x=d
      · rw[if_pos h2,if_pos h1];exact hgo d hz
      · rw[if_neg h2,if_pos h1,if_pos h1];exact hgo d hz
    · rw [if_neg h1]at hz
      by_cases h2:x=d
      · rw[if_pos (.inr h2.symm)]at hz
        rw[if_pos h2,if_neg h1];exact hgo x hz
      · rw[if_neg h2,if_neg h1]
        by_cases h3:d=1
        · rw[if_pos (.inl h3)]at hz
          rw[if_pos h3,if_neg h1];exact hgo x hz
        · rw[if_neg h3,hbad h2 h1 h3]
  · have:i=n:=by omega
    subst this
    rw[if_neg (by omega)]
    simp only[Nat.sub_self,List.drop_zero,List.replicate_zero,List.nil_append]at ht ⊢
    rw[ht,refB_k1 (by unfold Short;omega) (by omega)]
theorem refBroadcast_spec{fu:Nat}{a b:List Int}(ha:Short a)(hb:Short b)(hfa:a.length<fu)(hfb:b.length<fu)(hf:9<fu):ref04_Broadcast fu a b=some (broadcastV a b):=by
  unfold ref04_Broadcast;(try unfold jn)
  rw[refSize_spec ha hfa,ob_some]
  simp only[sizeV,broadcastV]
  by_cases ga:Good a
  · simp only[if_pos ga,if_true]
    rw[refSize_spec hb hfb,ob_some]
    simp only[sizeV]
    by_cases gb:Good b
    · simp only[if_pos gb,if_true]
      have:=ga.1
      have:=gb.1
      rw[imax_len,chk_pos (by omega),Int.toNat_natCast,refBW_spec rfl (by omega) hf]
      all_goals (cases bc a b <;> rfl)
    · simp only[if_neg gb]
      rw[if_neg (errS_ne b)]
  · simp only[if_neg ga]
    rw[if_neg (errS_ne a)]
theorem refFromW_spec{fu:Nat}{s l:List Int}{a e:Int}(hs:Good s)(hlg:Good l)(hls:s.length≤l.length)(hfit:dimsFit s (l.drop (l.length - s.length)))(h0:0≤a)(h1:a<prod l)(hf:9<fu):
    ref04_From.W1 fu s l (idxV l a,e) 0 0=some (fromS s ((idxV l a).drop (l.length - s.length)),0):=by
  have hL:=hlg.1
  have hS:=hs.1
  have hP:=hs.2.2
  have hn:prod l≠0:=by omega
  have hok:=okIx_drop (l.length - s.length) (okIx_idx (pos_of_good hlg hn) h0 h1)
  have hil:=idxV_length l a
  have hw:wk .i64 ((l.length:Int) - (s.length:Int))=((l.length - s.length:Nat):Int):=by rw[wk_eq (by omega) (by omega)];omega
  unfold ref04_From.W1
  generalize hA:l.length - s.length=A at hw hok hfit ⊢
  generalize hx:(idxV l a).drop A=xs at hok ⊢
  have hxl:xs.length=s.length:=by rw[← hx];simp[hil];omega
  have hdl:(l.drop A).length=s.length:=by simp;omega
  obtain⟨f1,f2⟩:=fromS_lt hdl.symm (by omega) hfit hok
  refine(cloop_ind (λ(t:Int×Int)=>some (wk .i64 (t.1*prod (s.drop t.2.toNat)+fromS (s.drop t.2.toNat) (xs.drop t.2.toNat)),(0:Int))) (λt=>0<=t.2/\t.2<=s.length/\ ∃ o',t.1=wk .i64 o') (λt=>s.length - t.2.toNat) ?_ fu (0,0) ⟨by simp,by simp,0,by decide⟩ (by simp;omega)).trans ?_
  · rintro⟨o,i⟩ ⟨q0,q1,o',rfl⟩ next hnx
    simp only at q0 q1 hnx ⊢
    obtain⟨k,rfl⟩:=Int.eq_ofNat_of_zero_le q0
    unfold ref04_From.L1 ref04_From.k3;(try unfold jn)
    simp only[Int.toNat_natCast,hw]
    have hidx:wk .i64 ((A:Int)+(k:Int))=((A+k:Nat):Int):=by rw[wk_eq (by omega) (by omega)];omega
    by_cases hk:k<s.length
    · have hkx:k<xs.length:=by omega
      have hget:(idxV l a)[A+k]? =some xs[k]:=by
        rw[← List.getElem?_eq_getElem hkx,← hx,List.getElem?_drop]
      rw[if_pos (by omega),hidx,at?_nat,hget,ob_some,at?_get hk,ob_some,ob_some,ob_some,wk_succ (by omega)]
      rw[List.drop_eq_getElem_cons hk,List.drop_eq_getElem_cons hkx]
      simp only[fromS,prod]
      have hnext: ∀ y,next (wk .i64 (wk .i64 (wk .i64 o'*s[k])+y),((k+1:Nat):Int))=some (wk .i64 (wk .i64 o'*(s[k]*prod (s.drop (k+1)))+(y*prod (s.drop (k+1))+fromS (s.drop (k+1)) (xs.drop (k+1)))),0):=fun y=>by
        rw[wk_add_l,hnx (wk .i64 (wk .i64 o'*s[k]+y),((k+1:Nat):Int)) ⟨by simp only[];omega,by simp only[];omega,_,rfl⟩ (by simp;omega)]
        simp only[Int.toNat_natCast]
        rw[wk_hor,Int.add_mul,Int.mul_assoc,Int.add_assoc]
      by_cases hd:s[k]=1
      · rw[if_pos hd,if_pos hd,hnext]
        simp
      · rw[if_neg hd,if_neg hd,hnext]
    · rw[if_neg (by omega),List.drop_of_length_le (by omega),List.drop_of_length_le (by omega)]
      simp[fromS,prod,wk_idem]
  · simp only[Int.toNat_zero,List.drop_zero,Int.zero_mul,Int.zero_add]
    rw[wk_eq (by omega) (by omega)]
theorem bv_short{a b:List Int}:(broadcastV a b).1.length≤8:=by
  unfold broadcastV
  split
  · split
    · rename_i ga gb
      cases hb:bc a b with
      |none=>simp
      | some r=>
        simp only
        split
        · rename_i g;exact g.1
        · simp
    · simp
  · simp
theorem refFrom_spec{fu:Nat}{s l:List Int}{a:Int}(hs:Short s)(hl:Short l)(hfs:s.length<fu)(hfl:l.length<fu)(hf:9<fu):ref04_From fu s l a=some (fromV s l a):=by
  unfold ref04_From ref04_From.k1 ref04_From.k2;(try unfold jn)
  rw[refSize_spec hs hfs,ob_some]
  simp only[sizeV,fromV]
  by_cases gs:Good s
  · simp only[if_pos gs,if_true]
    rw[refSize_spec hl hfl,ob_some]
    simp only[sizeV]
    by_cases gl:Good l
    · simp only[if_pos gl,if_true]
      rw[refBroadcast_spec hs hl hfs hfl hf,ob_some]
      by_cases he:(broadcastV s l).2=0
      · rw [if_pos he]
        have hb8:=bv_short (a:=s) (b:=l)
        rw[SameInts_spec (by unfold Short;omega) (by omega),ob_some]
        by_cases heq:(broadcastV s l).1=l
        · have hbv:broadcastV s l=(l,0):=Prod.ext heq he
          rw[if_pos (by simpa using heq),if_pos hbv]
          by_cases h1:a<0
          · rw[if_pos h1,if_neg (by omega)]
          rw[if_neg h1]
          by_cases h2:prod l<=a
          · rw[if_pos h2,if_neg (by omega)]
          rw[if_neg h2,if_pos (by omega),refIndex_spec hl hfl,ob_some]
          obtain⟨f1,_,f3⟩:=bcast_fit gs gl hbv
          have:indexV l a=(idxV l a,0):=by
            unfold indexV
            rw[if_pos gl,if_pos (by omega)]
          rw[this,refFromW_spec gs gl f1 f3 (by omega) (by omega) hf]
        · rw[if_neg (by simpa using heq),if_neg (λh=>heq (by rw[h]))]
      · rw[if_neg he,if_neg (λh=>he (by rw[h]))]
    · simp only[if_neg gl]
      rw[if_neg (errS_ne l)]
  · simp only[if_neg gs]
    rw[if_neg (errS_ne s)]
end Go.Av
namespace Go.Av
theorem same_loop{α:Type}[DecidableEq α]{a b:List α}(hl:a.length=b.length){fu:Nat}(hf:a.length<fu)(hs:a.length≤140737488355328){L:(Int→Option Bool)→Int→Option Bool}{c:Option Bool}
    (hL: ∀ nx i,L nx i=if i<(a.length:Int)then((at? a i).bind λx=>(at? b i).bind λy=>if x=y then(nx (wk .i64 (i+1)))else some false)else c):cloop L fu 0=if a=b then c else some false:=by
  refine(cloop_ind (λ(i:Int)=>if a.drop i.toNat=b.drop i.toNat then c else some false) (λi=>0<=i/\i<=a.length) (λi=>a.length - i.toNat) ?_ fu 0 (by simp) (by simp;omega)).trans (by simp)
  rintro i ⟨h0,h1⟩ next hn
  obtain⟨k,rfl⟩:=Int.eq_ofNat_of_zero_le h0
  rw[hL]
  simp only[Int.toNat_natCast]
  by_cases hk:k<a.length
  · have hkb:k<b.length:=by omega
    have hd:a.drop k=b.drop k ↔ a[k]=b[k]∧a.drop (k+1)=b.drop (k+1):=by
      rw[List.drop_eq_getElem_cons hk,List.drop_eq_getElem_cons hkb];exact List.cons_eq_cons
    rw[if_pos (by omega),at?_get hk,ob_some,at?_get hkb,ob_some,wk_succ (by omega)]
    by_cases he:a[k]=b[k]
    · rw[if_pos he,hn _ (by omega) (by simp;omega)]
      by_cases h2:a.drop (k+1)=b.drop (k+1)
      · rw[if_pos (by simpa using h2),if_pos (hd.2 ⟨he,h2⟩)]
      · rw[if_neg (by simpa using h2),if_neg (λh=>h2 (hd.1 h).2)]
    · rw[if_neg he,if_neg (λh=>he (hd.1 h).1)]
  · rw[if_neg (by omega),if_pos (by rw[List.drop_of_length_le (by omega),List.drop_of_length_le (by omega)])]
theorem refSame_spec{fu:Nat}{a b:T_Tensor}(hs:Small a)(hf:Fuel fu a):ref05_Same fu a b=some (sameT a b):=by
  obtain⟨s1,s2,s3,s4⟩:=hs
  obtain⟨f1,f2,f3,f4⟩:=hf
  unfold ref05_Same sameT;try unfold jn
  by_cases h1:a.fType=b.fType
  · rw [if_pos h1,SameInts_spec (by unfold Short;omega) f1,ob_some]
    by_cases h2:a.fDims=b.fDims
    · rw [if_pos (by simpa using h2)]
      by_cases l3:a.fF.length=b.fF.length
      · rw [if_pos (by omega)]
        by_cases l4:a.fI.length=b.fI.length
        · rw[if_pos (by omega)]
          by_cases l5:a.fB.length=b.fB.length
          · rw[if_pos (by omega)]
            unfold ref05_Same.k1 ref05_Same.W3;try unfold jn
            rw[same_loop (L:=λnext s=>ref05_Same.L3 fu a b next s) (a:=a.fF) (b:=b.fF) l3 f2 (by omega) (c:=ref05_Same.k2 fu a b) (λnx i=>rfl)]
            unfold ref05_Same.k2 ref05_Same.W2;try unfold jn
            rw[same_loop (L:=λnext s=>ref05_Same.L2 fu a b next s) (a:=a.fI) (b:=b.fI) l4 f3 (by omega) (c:=ref05_Same.k3 fu a b) (λnx i=>rfl)]
            unfold ref05_Same.k3 ref05_Same.W1
            rw[same_loop (L:=λnext s=>ref05_Same.L1 fu a b next s) (a:=a.fB) (b:=b.fB) l5 f4 (by omega) (c:=some true) (λnx i=>by unfold ref05_Same.L1;simp only[beq_iff_eq])]
            by_cases e3:a.fF=b.fF <;> by_cases e4:a.fI=b.fI <;> by_cases e5:a.fB=b.fB <;> simp[h1,h2,e3,e4,e5]
          · rw[if_neg (by omega)]
            have: ¬ a.fB=b.fB:=λh=>l5 (by rw[h])
            simp[this]
        · rw[if_neg (by omega)]
          have: ¬ a.fI=b.fI:=λh=>l4 (by rw[h])
          simp[this]
      · rw[if_neg (by omega)]
        have: ¬ a.fF=b.fF:=λh=>l3 (by rw[h])
        simp[this]
    · rw[if_neg (by simpa using h2)]
      simp[h2]
  · rw[if_neg h1]
    simp[h1]
end Go.Av
set_option linter.unusedSimpArgs false
namespace Go.Av
def spT(a:T_Tensor)(d:List Int):T_Tensor:=
  if a.fType=1 then⟨a.fType,d,(List.range (prod d).toNat).map (λk=>a.fF.getD (pl1 a.fDims d k) 0),[],[]⟩else if a.fType=7 then⟨a.fType,d,[],(List.range (prod d).toNat).map (λk=>a.fI.getD (pl1 a.fDims d k) 0),[]⟩else⟨a.fType,d,[],[],(List.range (prod d).toNat).map (λk=>a.fB.getD (pl1 a.fDims d k) false)⟩
structure Sp (a:T_Tensor) (d:List Int):Prop where
  ck:checkV a=0
  gd:Good d
  bc:broadcastV a.fDims d=(d,0)
theorem Sp.ga{a:T_Tensor}{d:List Int}(h:Sp a d):Good a.fDims:=(checkV_zero.1 h.ck).2.1
theorem Sp.la{a:T_Tensor}{d:List Int}(h:Sp a d):LensOK a:=(checkV_zero.1 h.ck).2.2
theorem Sp.kn{a:T_Tensor}{d:List Int}(h:Sp a d):a.fType=1∨a.fType=7∨a.fType=9:=(checkV_zero.1 h.ck).1
theorem spT_type{a:T_Tensor}{d:List Int}:(spT a d).fType=a.fType:=by
  unfold spT
  split
  · rfl
  · split <;> rfl
theorem spT_dims{a:T_Tensor}{d:List Int}:(spT a d).fDims=d:=by
  unfold spT
  split
  · rfl
  · split <;> rfl
theorem sum_lens{a:T_Tensor}{d:List Int}(h:Sp a d):(a.fF.length:Int)+a.fI.length+a.fB.length=prod a.fDims:=by
  obtain⟨l1,l2,l3⟩:=h.la
  rw[l1,l2,l3]
  rcases h.kn with t|t|t <;> rw[t] <;> simp
theorem pick_eq{a:T_Tensor}{d:List Int}(h:Sp a d):pickV a d ((List.range (prod d).toNat).map fun k=>((pl1 a.fDims d k:Nat):Int))=(spT a d,0):=by
  have hp:=prod_nonneg h.gd.2.1
  have hn:(newV a.fType d).2=0:=by
    rw[newV_at h.gd h.kn]
    split
    · rfl
    · split <;> rfl
  have hb: ¬ ((List.range (prod d).toNat).map fun k=>((pl1 a.fDims d k:Nat):Int)).any (badP (a.fF.length+a.fI.length+a.fB.length))=true:=by
    intro hh
    obtain⟨x,hx,hx2⟩:=List.any_eq_true.1 hh
    obtain⟨k,hk,rfl⟩:=List.mem_map.1 hx
    have hk2:(k:Int)<prod d:=by have:=List.mem_range.1 hk;omega
    have h1:=(pl1_spec h.ga h.gd h.bc hk2).2
    rw[sum_lens h]at hx2
    simp only[badP,Bool.or_eq_true,decide_eq_true_eq]at hx2
    omega
  unfold pickV
  rw[if_pos h.ck,if_pos hn,if_pos (by simp;omega),if_neg hb]
  have hm: ∀ {α:Type} (src:List α) (z:α),((List.range (prod d).toNat).map fun k=>((pl1 a.fDims d k:Nat):Int)).map (pkOf src z)=(List.range (prod d).toNat).map (fun k=>src.getD (pl1 a.fDims d k) z):=fun src z=>by
    rw[List.map_map]
    refine List.map_congr_left λk _=> ?_
    show pkOf src z ((pl1 a.fDims d k:Nat):Int)=_
    rw[pkOf,if_pos (by omega),Int.toNat_natCast]
  unfold spT
  rw[hm,hm,hm]
theorem spread_spec{fu:Nat}{a:T_Tensor}{d:List Int}(h:Sp a d)(ht:Ten a)(hfa:Fuel fu a)(hf:5000<fu):law11_spread fu a d=some (spT a d):=by
  have hp:=prod_nonneg h.gd.2.1
  have h8:=h.gd.1
  have h9:=h.ga.1
  have hq:=h.gd.2.2
  unfold law11_spread law11_spread.W1;try unfold jn
  rw[refSize_spec (by unfold Short;omega) (by omega),ob_some]
  have hz:sizeV d=(prod d,0):=by simp only[sizeV,if_pos h.gd]
  rw[hz]
  refine cloop_st (body:=λnext s_1=>_) (prod d).toNat (λk=>((List.range k).map (λk=>((pl1 a.fDims d k:Nat):Int)),(k:Int))) (some (spT a d)) ?_ ?_ (by omega)
  · intro k hk next hn
    show law11_spread.L1 fu a d (prod d,0) (λx y=>next (x,y)) ((List.range k).map (λk=>((pl1 a.fDims d k:Nat):Int))) (k:Int)=_
    unfold law11_spread.L1
    dsimp only
    have hk2:(k:Int)<prod d:=by omega
    rw[if_pos hk2,refFrom_spec (by unfold Short;omega) (by unfold Short;omega) (by omega) (by omega) (by omega),ob_some,(pl1_spec h.ga h.gd h.bc hk2).1,chk_pos (by simp;omega),wk_succ (by omega)]
    rw[List.range_succ,List.map_append]at hn
    exact hn
  · intro next
    show law11_spread.L1 fu a d (prod d,0) _ ((List.range (prod d).toNat).map (λk=>((pl1 a.fDims d k:Nat):Int))) (((prod d).toNat:Nat):Int)=_
    unfold law11_spread.L1 law11_spread.k1
    dsimp only
    rw[if_neg (by omega),refPick_spec ht.small hfa (by unfold Short;omega) (by omega) (by unfold Short;simp;omega) (by simp;omega),ob_some,pick_eq h]
theorem spT_lens{a:T_Tensor}{d:List Int}(h:Sp a d):LensOK (spT a d):=by
  have hp:=prod_nonneg h.gd.2.1
  have hn:(((prod d).toNat:Nat):Int)=prod d:=by omega
  unfold LensOK spT
  rcases h.kn with t|t|t
  · rw[if_pos t];simp[t];omega
  · rw[if_neg (by rw[t];decide),if_pos t];simp[t];omega
  · rw[if_neg (by rw[t];decide),if_neg (by rw[t];decide)];simp[t];omega
theorem spT_check{a:T_Tensor}{d:List Int}(h:Sp a d):checkV (spT a d)=0:=by
  refine checkV_zero.2 ⟨?_,?_,spT_lens h⟩
  · rw[spT_type];exact h.kn
  · rw[spT_dims];exact h.gd
theorem spT_ten{a:T_Tensor}{d:List Int}(h:Sp a d)(ht:Ten a):Ten (spT a d):=by
  have hp:=prod_nonneg h.gd.2.1
  have hq:=h.gd.2.2
  have h8:=h.gd.1
  have hw: ∀ j,Word (a.fF.getD j 0):=fun j=>by
    rw[List.getD_eq_getElem?_getD]
    cases hj:a.fF[j]? with
    |none=>exact⟨by decide,by decide⟩
    |some x=>exact ht.2.2.2.2 x (List.mem_of_getElem? hj)
  unfold Ten spT
  split
  · refine⟨by show d.length*8≤_;omega,by simp;omega,by simp,by simp,fun x hx=> ?_⟩
    obtain⟨k,_,rfl⟩:=List.mem_map.1 hx
    exact hw _
  · split
    · exact⟨by show d.length*8<=_;omega,by simp,by simp;omega,by simp,λx hx=>absurd hx (by simp)⟩
    · exact⟨by show d.length*8<=_;omega,by simp,by simp,by simp;omega,λx hx=>absurd hx (by simp)⟩
theorem spT_fuel{fu:Nat}{a:T_Tensor}{d:List Int}(h:Sp a d)(hf:5000<fu):Fuel fu (spT a d):=by
  have hp:=prod_nonneg h.gd.2.1
  have hq:=h.gd.2.2
  have h8:=h.gd.1
  unfold Fuel spT
  split
  · exact⟨by show d.length<fu;omega,by simp;omega,by simp;omega,by simp;omega⟩
  · split
    · exact⟨by show d.length<fu;omega,by simp;omega,by simp;omega,by simp;omega⟩
    · exact⟨by show d.length<fu;omega,by simp;omega,by simp;omega,by simp;omega⟩
theorem fromS_off: ∀ {l xs:List Int},okIx l xs=true→fromS l xs=offV l xs
  |[],[],_=>rfl
  | d ::l,x::xs,h=>by
    simp only[okIx,Bool.and_eq_true,decide_eq_true_eq]at h
    simp only[fromS,offV,fromS_off h.2]
    by_cases hd:d=1
    · rw[if_pos hd]
      have:x=0:=by omega
      rw[this];simp
    · rw[if_neg hd]
  |[],_::_,h=>by simp[fromS,offV]
  |_::_,[],h=>by simp[fromS,offV]
theorem bcv_self{d:List Int}(gd:Good d):broadcastV d d=(d,0):=bcv_of gd gd (by simp[bc,bc',zipB_self])
theorem pl1_self{d:List Int}{k:Nat}(gd:Good d)(hk:(k:Int)<prod d):pl1 d d k=k:=by
  have hp: ∀ x ∈ d,1<=x:=pos_of_good gd (by omega)
  have e:fromV d d (k:Int)=((k:Int),0):=by
    unfold fromV
    rw[if_pos gd,if_pos gd,if_pos (bcv_self gd),if_pos ⟨by omega,hk⟩,Nat.sub_self,List.drop_zero,fromS_off (okIx_idx hp (by omega) hk),offV_idx hp (by omega) hk]
  unfold pl1
  rw[e];simp
theorem getD_map{l:List Int}{j:Nat}:(l.map canonF).getD j 0=canonF (l.getD j 0):=by
  rw[List.getD_eq_getElem?_getD,List.getD_eq_getElem?_getD,List.getElem?_map]
  cases l[j]? <;> rfl
theorem range_getD{α:Type}{n k:Nat}{f:Nat→α}{z:α}(h:k<n):((List.range n).map f).getD k z=f k:=by
  rw[List.getD_eq_getElem?_getD,List.getElem?_map,List.getElem?_range h];rfl
section
variable {a:T_Tensor} {d:List Int} {k:Nat}
theorem spF(h:Sp a d)(t:a.fType=1)(hk:k<(prod d).toNat):(canonT (spT a d)).fF.getD (pl1 (canonT (spT a d)).fDims d k) 0=(canonT a).fF.getD (pl1 (canonT a).fDims d k) 0:=by
  have hk2:(k:Int)<prod d:=by omega
  show((spT a d).fF.map canonF).getD (pl1 (spT a d).fDims d k) 0=(a.fF.map canonF).getD (pl1 a.fDims d k) 0
  rw[spT_dims,pl1_self h.gd hk2,getD_map,getD_map]
  have e:(spT a d).fF=(List.range (prod d).toNat).map (λk=>a.fF.getD (pl1 a.fDims d k) 0):=by unfold spT;rw[if_pos t]
  rw[e,range_getD hk]
theorem spI(h:Sp a d)(t:a.fType=7)(hk:k<(prod d).toNat):(canonT (spT a d)).fI.getD (pl1 (canonT (spT a d)).fDims d k) 0=(canonT a).fI.getD (pl1 (canonT a).fDims d k) 0:=by
  have hk2:(k:Int)<prod d:=by omega
  show(spT a d).fI.getD (pl1 (spT a d).fDims d k) 0=a.fI.getD (pl1 a.fDims d k) 0
  rw[spT_dims,pl1_self h.gd hk2]
  have e:(spT a d).fI=(List.range (prod d).toNat).map (λk=>a.fI.getD (pl1 a.fDims d k) 0):=by unfold spT;rw[if_neg (by rw[t];decide),if_pos t]
  rw[e,range_getD hk]
theorem spB(h:Sp a d)(t:a.fType=9)(hk:k<(prod d).toNat):(canonT (spT a d)).fB.getD (pl1 (canonT (spT a d)).fDims d k) false=(canonT a).fB.getD (pl1 (canonT a).fDims d k) false:=by
  have hk2:(k:Int)<prod d:=by omega
  show(spT a d).fB.getD (pl1 (spT a d).fDims d k) false=a.fB.getD (pl1 a.fDims d k) false
  rw[spT_dims,pl1_self h.gd hk2]
  have e:(spT a d).fB=(List.range (prod d).toNat).map (λk=>a.fB.getD (pl1 a.fDims d k) false):=by unfold spT;rw[if_neg (by rw[t];decide),if_neg (by rw[t];decide)]
  rw[e,range_getD hk]
end
theorem outE_spread{fu:Nat}{op:Int}{s:T_Setting}{a b:T_Tensor}{d:List Int}(ha:Sp a d)(hb:Sp b d)(ht:b.fType=a.fType)(hok:okT op a.fType):outE fu op s (canonT (spT a d)) (canonT (spT b d)) d=outE fu op s (canonT a) (canonT b) d:=by
  have e0:(canonT (spT a d)).fType=(canonT a).fType:=spT_type
  have cg: ∀ {α:Type} {f g:Nat->α},(∀ k,k<(prod d).toNat->f k=g k)->(List.range (prod d).toNat).map f=(List.range (prod d).toNat).map g:=λh=>List.map_congr_left λk hk=>h k (List.mem_range.1 hk)
  have cF:a.fType=1→(List.range (prod d).toNat).map (zF fu op (canonT (spT a d)) (canonT (spT b d)) d)=(List.range (prod d).toNat).map (zF fu op (canonT a) (canonT b) d):=fun t=>cg fun k hk=>by
    unfold zF;rw[spF ha t hk,spF hb (ht.trans t) hk]
  have cT:a.fType=1→(List.range (prod d).toNat).map (zT op (canonT (spT a d)) (canonT (spT b d)) d)=(List.range (prod d).toNat).map (zT op (canonT a) (canonT b) d):=fun t=>cg fun k hk=>by
    unfold zT;rw[spF ha t hk,spF hb (ht.trans t) hk]
  have cI:a.fType=7→(List.range (prod d).toNat).map (zI fu s.fFmod op (canonT (spT a d)) (canonT (spT b d)) d)=(List.range (prod d).toNat).map (zI fu s.fFmod op (canonT a) (canonT b) d):=fun t=>cg fun k hk=>by
    unfold zI;rw[spI ha t hk,spI hb (ht.trans t) hk]
  have cC:a.fType=7→(List.range (prod d).toNat).map (zC op (canonT (spT a d)) (canonT (spT b d)) d)=(List.range (prod d).toNat).map (zC op (canonT a) (canonT b) d):=fun t=>cg fun k hk=>by
    unfold zC;rw[spI ha t hk,spI hb (ht.trans t) hk]
  have cB:a.fType=9→(List.range (prod d).toNat).map (zB op (canonT (spT a d)) (canonT (spT b d)) d)=(List.range (prod d).toNat).map (zB op (canonT a) (canonT b) d):=fun t=>cg fun k hk=>by
    unfold zB;rw[spB ha t hk,spB hb (ht.trans t) hk]
  unfold outE
  rw[e0]
  have et:(canonT a).fType=a.fType:=rfl
  rw[et]
  split
  · rcases ha.kn with t|t|t
    · rw[if_neg (by rw[t];decide),if_pos t,if_neg (by rw[t];decide),if_pos t,cT t]
    · rw[if_neg (by rw[t];decide),if_neg (by rw[t];decide),if_neg (by rw[t];decide),if_neg (by rw[t];decide),cC t]
    · rw[if_pos t,if_pos t,cB t]
  · rename_i hno
    have t17:a.fType=1∨a.fType=7:=by
      unfold okT at hok
      split at hok
      · rename_i h;exact absurd (h.elim .inl λh=>h.elim (λh=> .inr (.inl h)) λh=> .inr (.inr (.inl h))) hno
      · split at hok
        · rename_i h;exact absurd (.inr (.inr (.inr (.inl h)))) hno
        · split at hok
          · exact .inl hok
          · exact hok
    rcases t17 with t|t
    · rw[if_pos t,if_pos t,cF t]
    · rw[if_neg (by rw[t];decide),if_neg (by rw[t];decide),cI t]
theorem Dv_spread{op:Int}{a b:T_Tensor}{d:List Int}(ha:Sp a d)(hb:Sp b d)(ht:b.fType=a.fType):Dv op (canonT (spT a d)) (canonT (spT b d)) d→Dv op (canonT a) (canonT b) d:=by
  rintro⟨h1,h2,k,hk,h3⟩
  have t:a.fType=7:=(spT_type (a:=a) (d:=d)).symm.trans h2
  exact⟨h1,t,k,hk,by rw[← spI hb (ht.trans t) hk];exact h3⟩
theorem outE_dims{fu:Nat}{op:Int}{s:T_Setting}{a b:T_Tensor}{d:List Int}:(outE fu op s a b d).fDims=d:=by
  unfold outE
  split
  · rfl
  · split <;> rfl
theorem outE_small{fu g:Nat}{op:Int}{s:T_Setting}{a b:T_Tensor}{d:List Int}(gd:Good d)(hf:5000<g):Small (outE fu op s a b d)∧Fuel g (outE fu op s a b d):=by
  have h1:=gd.1
  have h2:=gd.2.2
  have h3:=prod_nonneg gd.2.1
  have key: ∀ (k:Int) (f i:List Int) (q:List Bool),f.length≤4096→i.length≤4096→q.length≤4096→Small (⟨k,d,f,i,q⟩:T_Tensor)∧Fuel g (⟨k,d,f,i,q⟩:T_Tensor):=fun k f i q a b c=>
    ⟨⟨by show d.length*8<=_;omega,by show f.length<=_;omega,by show i.length<=_;omega,by show q.length<=_;omega⟩,⟨by show d.length<g;omega,by show f.length<g;omega,by show i.length<g;omega,by show q.length<g;omega⟩⟩
  unfold outE
  split
  · exact key _ _ _ _ (by simp) (by simp) (by simp;omega)
  · split
    · exact key _ _ _ _ (by simp;omega) (by simp) (by simp)
    · exact key _ _ _ _ (by simp) (by simp;omega) (by simp)
theorem spread_law{fu:Nat}{op:Int}{s:T_Setting}{a b:T_Tensor}(h:OPS op)(ta:Ten a)(tb:Ten b)(fa:Fuel fu a)(fb:Fuel fu b)(hf:20000<fu):law11_EwiseSpread.k1 fu op s a b=some true:=by
  have tens: ∀ {x y:T_Tensor},Ten x→Ten y→Fuel fu x→Fuel fu y→Tens fu [x,y]:=fun hx hy gx gy=>⟨by simp,by simp;omega,fun t ht=>by
    rcases List.mem_cons.1 ht with rfl|ht
    · exact⟨hx,gx⟩
    · rcases List.mem_cons.1 ht with rfl|ht
      · exact⟨hy,gy⟩
      · cases ht⟩
  unfold law11_EwiseSpread.k1 law11_EwiseSpread.k2;try unfold jn
  have bad: ∀ e:Int,e≠0→ewise_Do fu op s [a,b]=some (noT,e)→((ewise_Do fu op s [a,b]).bind fun x5=>if x5.2=0 then((law11_spread fu a x5.1.fDims).bind fun x6=>(law11_spread fu b x5.1.fDims).bind fun x7=>(ewise_Do fu op s ([x6,x7])).bind fun x8=>if x8.2=0 then((ref05_Same fu x5.1 x8.1).bind fun x9=>some x9)else some false)else some (decide ((wk .i64 ((wk .i64 ((x5.1.fF.length:Int)+(x5.1.fI.length:Int)))+(x5.1.fB.length:Int)))=0)))=some true:=fun e he h1=>by
    rw[h1,ob_some,if_neg he];rfl
  rcases Do2 (s:=s) h (tens ta tb fa fb) ta tb (by omega)with⟨d,hA,⟨hd,e1⟩|⟨_,e1⟩⟩|⟨_,e,he,e1⟩
  · obtain⟨ca,cb,ho,het,hoa,hsh⟩:=hA
    have ga:=(checkV_zero.1 ca).2.1
    have gb:=(checkV_zero.1 cb).2.1
    obtain⟨hbc,gd⟩:=shp_bc ga gb hsh
    obtain⟨q1,q2,_⟩:=bc_left hbc
    have sa:Sp a d:=⟨ca,gd,bcv_of ga gd (bc_comm ▸ q1)⟩
    have sb:Sp b d:=⟨cb,gd,bcv_of gb gd q2⟩
    rw[e1,ob_some,if_pos rfl]
    dsimp only
    rw[outE_dims,spread_spec sa ta fa (by omega),ob_some,spread_spec sb tb fb (by omega),ob_some]
    have hA2:AccT op s (spT a d) (spT b d) d:=⟨spT_check sa,spT_check sb,by rw[spT_type];exact ho,by rw[spT_type,spT_type];exact het,by rw[spT_type];exact hoa,by rw[spT_dims,spT_dims];exact shp_self ga gb hsh⟩
    rcases Do2 (s:=s) h (tens (spT_ten sa ta) (spT_ten sb tb) (spT_fuel sa (by omega)) (spT_fuel sb (by omega))) (spT_ten sa ta) (spT_ten sb tb) (by omega)with⟨d2,hB,hC⟩|⟨hno,_⟩
    · have hdd:d2=d:=by
        have h1:=hB.2.2.2.2.2
        rw[hA2.2.2.2.2.2]at h1
        injection h1 with h1;exact h1.symm
      subst hdd
      rcases hC with⟨_,e2⟩|⟨hdv,_⟩
      · rw[e2,ob_some,if_pos rfl]
        dsimp only
        rw[outE_spread sa sb het ho,refSame_spec (outE_small (g:=fu) gd (by omega)).1 (outE_small (g:=fu) gd (by omega)).2,ob_some,sameT_self]
      · exact absurd (Dv_spread sa sb het hdv) hd
    · exact absurd hA2 (hno d)
  · exact bad 10 (by decide) e1
  · exact bad e he e1
end Go.Av
