/- Layer 4, shapes: what the plain functions come to. Strides, indices, offsets. Indices of a place. Copies. Layer 5: sameness, whether a tensor may be, copies whose no numbers are one. Lists of numbers alike. Sameness of two tensors. Any tensors: as constant values; whether each may be. Shapes brought together. From a place to where it stands in a smaller shape; ShapeBoth: the law over the plain functions. New tensors, elements picked. Floats: a product and a sum always come to something. Operators of two inputs, element by element: the types and the shape of the output. Operators of two inputs: where elements stand, lists that are filled one by one. Floats: sums, products, the lesser, the greater and sameness do not hang on the order. Operators of two inputs: all elements of the output, one by one. Made by a program of mine. Operators of two inputs: what ewise.Do comes to, or that it is refused. Operators of two inputs whose order does not count: the answers are the same. Conditions: those that each names. -/
import Derived.Test.YteafmomjfnlkgaaGreatQS
import Derived.Test.YteafmomjfnlkgaaGreatPl
set_option linter.unusedVariables false
namespace Go.Av
def fstAt(p:Int→Bool):Nat→List Int→Int
  |_,[]=> -1
  |i,x::l=>if p x=true then i else fstAt p (i+1) l
theorem fstAt_any(p:Int→Bool): ∀ (l:List Int) (i:Nat),decide (0≤fstAt p i l)=l.any p
  |[],i=>rfl
  | x::l,i=>by
    simp only[fstAt,List.any_cons]
    by_cases h:p x=true
    · simp[h]
    · simp[h,← fstAt_any p l (i+1)]
def Short(l:List Int):Prop:=l.length<=140737488355328
theorem wk_succ{k:Nat}(h:k<=140737488355328):wk .i64 ((k:Int)+1)=((k+1:Nat):Int):=by rw[wk_eq (by omega) (by omega)];omega
theorem IndexFunc_spec{fu:Nat}{l:List Int}{p:Int→Option Bool}{q:Int→Bool}(hp: ∀ x,p x=some (q x))(hl:Short l)(hf:l.length<fu):slices_IndexFunc_int fu l p=some (fstAt q 0 l):=by
  unfold slices_IndexFunc_int slices_IndexFunc_int.W1
  refine cloop_ind (λ(i:Int)=>some (fstAt q i.toNat (l.drop i.toNat))) (λi=>0<=i/\i<=l.length) (λi=>l.length - i.toNat) ?_ fu 0 (by omega) (by simp;omega)
  rintro i ⟨h0,h1⟩ next hn
  obtain⟨k,rfl⟩:=Int.eq_ofNat_of_zero_le h0
  unfold slices_IndexFunc_int.L1
  simp only[Int.toNat_natCast]
  by_cases hk:k<l.length
  · rw[if_pos (by omega),at?_get hk,ob_some,hp,ob_some,List.drop_eq_getElem_cons hk]
    simp only[fstAt]
    by_cases hq:q l[k]=true
    · rw[if_pos hq,if_pos hq]
    · rw[if_neg hq,if_neg hq,wk_succ (by unfold Short at hl;omega),hn _ (by omega) (by simp;omega)]
      simp
  · rw[if_neg (by omega),List.drop_of_length_le (by omega)];rfl
theorem ContainsFunc_spec{fu:Nat}{l:List Int}{p:Int→Option Bool}{q:Int→Bool}(hp: ∀ x,p x=some (q x))(hl:Short l)(hf:l.length<fu):slices_ContainsFunc_int fu l p=some (l.any q):=by
  unfold slices_ContainsFunc_int
  rw[IndexFunc_spec hp hl hf,ob_some,fstAt_any]
theorem IndexI_spec{fu:Nat}{l:List Int}{x:Int}(hl:Short l)(hf:l.length<fu):slices_Index_int fu l x=some (fstAt (fun y=>decide (x=y)) 0 l):=by
  unfold slices_Index_int slices_Index_int.W1
  refine cloop_ind (λ(i:Int)=>some (fstAt (λy=>decide (x=y)) i.toNat (l.drop i.toNat))) (λi=>0<=i/\i<=l.length) (λi=>l.length - i.toNat) ?_ fu 0 (by omega) (by simp;omega)
  rintro i ⟨h0,h1⟩ next hn
  obtain⟨k,rfl⟩:=Int.eq_ofNat_of_zero_le h0
  unfold slices_Index_int.L1
  simp only[Int.toNat_natCast]
  by_cases hk:k<l.length
  · rw[if_pos (by omega),at?_get hk,ob_some,List.drop_eq_getElem_cons hk]
    simp only[fstAt]
    by_cases hq:x=l[k]
    · rw[if_pos hq,if_pos (by simpa using hq)]
    · rw[if_neg hq,if_neg (by simpa using hq),wk_succ (by unfold Short at hl;omega),hn _ (by omega) (by simp;omega)]
      simp
  · rw[if_neg (by omega),List.drop_of_length_le (by omega)];rfl
theorem Contains_spec{fu:Nat}{l:List Int}{x:Int}(hl:Short l)(hf:l.length<fu):slices_Contains_int fu l x=some (l.any fun y=>decide (x=y)):=by
  unfold slices_Contains_int
  rw[IndexI_spec hl hf,ob_some,fstAt_any]
def prod:List Int→Int
  |[]=>1
  |x::l=>x*prod l
def Rng(l:List Int):Prop:= ∀ x ∈ l,0<=x/\x<=4096
def Good(l:List Int):Prop:=l.length<=8/\Rng l/\prod l<=4096
instance (l:List Int):Decidable (Rng l):=by unfold Rng;infer_instance
instance (l:List Int):Decidable (Good l):=by unfold Good;infer_instance
def errS(l:List Int):Int:=if l.any (λx=>decide (x<0))=true then 1 else 4
def sizeV(l:List Int):Int×Int:=if Good l then(prod l,0)else(0,errS l)
theorem errS_ne(l:List Int):errS l≠0:=by unfold errS;split <;> decide
theorem prod_nonneg: ∀ {l:List Int},Rng l→0≤prod l
  |[],_=>by decide
  |x::l,h=>Int.mul_nonneg (h x (by simp)).1 (prod_nonneg λy hy=>h y (by simp[hy]))
theorem prod_pos: ∀ {l:List Int},(∀ x ∈ l,1≤x)→1≤prod l
  |[],_=>by decide
  | x::l,h=>by
    have h1:=h x (by simp)
    have h2:=prod_pos (l:=l) λy hy=>h y (by simp[hy])
    have:=Int.mul_le_mul h1 h2 (by decide) (by omega)
    simpa[prod]using this
theorem prod_zero: ∀ {l:List Int},0 ∈ l→prod l=0
  | x::l,h=>by
    rcases List.mem_cons.1 h with rfl|h
    · simp[prod]
    · simp[prod,prod_zero h]
theorem div_lt_iff{m d:Int}(hm:1≤m)(hd:0≤d):(Int.tdiv 4096 m<d) ↔ 4096<m*d:=by
  rw[Int.tdiv_eq_ediv_of_nonneg (by decide)]
  constructor
  · intro h
    have:=Int.lt_mul_of_ediv_lt (by omega:0<m) h
    rwa[Int.mul_comm]at this
  · intro h
    exact Int.ediv_lt_of_lt_mul (by omega) (by rwa[Int.mul_comm])
theorem SizeW_spec{fu:Nat}{l:List Int}(hp: ∀ x ∈ l,1≤x∧x≤4096)(hl:l.length≤8)(hf:l.length<fu):shape_Size.W1 fu l 1 0=some (if prod l≤4096 then(prod l,0)else(0,4)):=by
  unfold shape_Size.W1
  refine(cloop_ind (λ(s:Int×Int)=>some (if s.1*prod (l.drop s.2.toNat)<=4096 then(s.1*prod (l.drop s.2.toNat),0)else(0,4))) (λs=>0<=s.2/\s.2<=l.length/\1<=s.1/\s.1<=4096) (λs=>l.length - s.2.toNat) ?_ fu (1,0) (by simp) (by simp;omega)).trans (by simp)
  rintro⟨m,i⟩ ⟨h0,h1,h2,h3⟩ next hn
  simp only at h0 h1 h2 h3 hn ⊢
  obtain⟨k,rfl⟩:=Int.eq_ofNat_of_zero_le h0
  unfold shape_Size.L1
  simp only[Int.toNat_natCast]
  by_cases hk:k<l.length
  · obtain⟨q1,q2⟩:=hp _ (List.getElem_mem hk)
    have t0:0≤Int.tdiv 4096 m∧Int.tdiv 4096 m≤4096:=by
      rw[Int.tdiv_eq_ediv_of_nonneg (by decide)]
      exact⟨Int.ediv_nonneg (by decide) (by omega),Int.ediv_le_self _ (by decide)⟩
    rw[if_pos (by omega),at?_get hk,ob_some,chk_pos (by omega),wk_eq (by omega) (by omega),List.drop_eq_getElem_cons hk]
    have hpos:1<=prod (l.drop (k+1)):=prod_pos λx hx=>(hp x (List.mem_of_mem_drop hx)).1
    have hge:1<=m*l[k]:=by have:=Int.mul_le_mul h2 q1 (by decide) (by omega);simpa using this
    simp only[prod,← Int.mul_assoc]
    by_cases hd:Int.tdiv 4096 m<l[k]
    · rw[if_pos hd]
      rw[div_lt_iff h2 (by omega)]at hd
      have:m*l[k]*1<=m*l[k]*prod (l.drop (k+1)):=Int.mul_le_mul_of_nonneg_left hpos (by omega)
      rw[if_neg (by omega)]
    · rw[if_neg hd]
      rw[div_lt_iff h2 (by omega)]at hd
      rw[wk_eq (by omega) (by omega),wk_succ (by omega),hn (m*l[k],((k+1:Nat):Int)) ⟨by simp only[];omega,by simp only[];omega,hge,by simp only[];omega⟩ (by simp;omega)]
      simp
  · rw[if_neg (by omega),List.drop_of_length_le (by omega)]
    simp only[prod,Int.mul_one]
    rw[if_pos h3]
theorem Size_spec{fu:Nat}{l:List Int}(hl:Short l)(hf:l.length<fu):shape_Size fu l=some (sizeV l):=by
  unfold shape_Size;try unfold jn
  rw[ContainsFunc_spec (p:=λy0=>shape_Size_1 fu y0) (q:=λx=>decide (x<0)) (λx=>rfl) hl hf,ob_some]
  by_cases h1:l.any (λx=>decide (x<0))=true
  · rw[if_pos h1]
    have hg: ¬ Good l:=fun hg=>by
      obtain⟨x,hx,hx2⟩:=List.any_eq_true.1 h1
      have:=(hg.2.1 x hx).1
      simp at hx2;omega
    simp only[sizeV,if_neg hg,errS,if_pos h1]
  rw[if_neg h1]
  have he:errS l=4:=by simp only[errS,if_neg h1]
  by_cases h2:8<(l.length:Int)
  · rw[if_pos h2]
    have hg: ¬ Good l:=λhg=>by have:=hg.1;omega
    simp only[sizeV,if_neg hg,he]
  rw[if_neg h2,ContainsFunc_spec (p:=λy0=>shape_Size_2 fu y0) (q:=λx=>decide (4096<x)) (λx=>rfl) hl hf,ob_some]
  by_cases h3:l.any (λx=>decide (4096<x))=true
  · rw[if_pos h3]
    have hg: ¬ Good l:=fun hg=>by
      obtain⟨x,hx,hx2⟩:=List.any_eq_true.1 h3
      have:=(hg.2.1 x hx).2
      simp at hx2;omega
    simp only[sizeV,if_neg hg,he]
  rw[if_neg h3]
  have hr:Rng l:=fun x hx=>by
    simp only[List.any_eq_true,decide_eq_true_eq,not_exists,not_and]at h1 h3
    have:=h1 x hx;have:=h3 x hx;omega
  unfold shape_Size.k1
  rw[Contains_spec hl hf,ob_some]
  by_cases h4:(l.any λy=>decide ((0:Int)=y))=true
  · rw[if_pos h4]
    have hz:(0:Int) ∈ l:=by
      obtain⟨x,hx,hx2⟩:=List.any_eq_true.1 h4
      simp at hx2;subst hx2;exact hx
    have hg:Good l:=⟨by omega,hr,by rw[prod_zero hz];decide⟩
    simp only[sizeV,if_pos hg,prod_zero hz]
  rw[if_neg h4]
  have hp: ∀ x ∈ l,1≤x∧x≤4096:=fun x hx=>by
    have:=hr x hx
    simp only[List.any_eq_true,decide_eq_true_eq,not_exists,not_and]at h4
    have:=h4 x hx;omega
  rw[SizeW_spec hp (by omega) hf]
  by_cases h5:prod l<=4096
  · have hg:Good l:=⟨by omega,hr,h5⟩
    simp only[sizeV,if_pos hg,if_pos h5]
  · have hg: ¬ Good l:=fun hg=>h5 hg.2.2
    simp only[sizeV,if_neg hg,if_neg h5,he]
end Go.Av
set_option linter.unusedVariables false
namespace Go.Av
def strdW:List Int→List Int
  |[]=>[]
  |_::l=>wk .i64 (prod l)::strdW l
theorem strdW_length: ∀ l,(strdW l).length=l.length
  |[]=>rfl
  |_::l=>by simp[strdW,strdW_length l]
theorem strdW_get: ∀ {l:List Int} {i:Nat} (h:i<l.length),(strdW l)[i]? =some (wk .i64 (prod (l.drop (i+1))))
  |_::l,0,_=>by simp[strdW]
  | _::l,i+1,h=>by
    have:=strdW_get (l:=l) (i:=i) (by simpa using h)
    simpa[strdW]using this
theorem rep_set(i:Nat)(x:Int)(s:List Int):(List.replicate (i+1) 0++s).set i x=List.replicate i 0++x::s:=by
  rw[List.replicate_succ',List.append_assoc,List.set_append_right _ _ (by simp)]
  simp
theorem strides_spec{fu:Nat}{l:List Int}(hl:l.length*8≤140737488355328)(hf:l.length<fu):shape_strides fu l=some (strdW l):=by
  unfold shape_strides shape_strides.W1
  rw[chk_pos (by omega)]
  have hw:wk .i64 ((l.length:Int) - 1)=((l.length:Int) - 1):=wk_eq (by omega) (by omega)
  rw[hw,Int.toNat_natCast]
  refine(cloop_ind (λ_=>some (strdW l)) (λ(s:List Int×Int×Int)=> ∃ k:Nat,k<=l.length/\s=(List.replicate k 0++strdW (l.drop k),wk .i64 (prod (l.drop k)),(k:Int) - 1)) (λs=>(s.2.2+1).toNat) ?_ fu _ ⟨l.length,Nat.le_refl _,by simp[strdW,prod];decide⟩ (by simp;omega))
  rintro _ ⟨k,hk,rfl⟩ next hn
  unfold shape_strides.L1
  simp only
  match k,hk with
  |0,_=>rw[if_neg (by decide)];simp
  | k+1,hk=>
    have e1:(((k+1:Nat):Int) - 1)=(k:Int):=by omega
    have hlen:(List.replicate (k+1) (0:Int)++strdW (l.drop (k+1))).length=l.length:=by simp[strdW_length];omega
    rw[e1,if_pos (by omega),hlen,chk_pos (by omega),at?_get (by omega),ob_some,Int.toNat_natCast,rep_set,wk_mul_l,wk_eq (x:=(k:Int) - 1) (by omega) (by omega)]
    refine hn _ ⟨k,by omega,?_⟩ (by simp)
    rw[List.drop_eq_getElem_cons (by omega:k<l.length)]
    simp only[strdW,prod]
    rw[Int.mul_comm]
theorem prod_drop_le{l:List Int}(hp: ∀ x ∈ l,1≤x): ∀ k,1≤prod (l.drop k)∧prod (l.drop k)≤prod l:=by
  induction l with
  |nil=>intro k;simp[prod]
  | cons x l ih=>
    intro k
    have hx:=hp x (by simp)
    have ih':=ih λy hy=>hp y (by simp[hy])
    cases k with
    |zero=>exact⟨by simpa using prod_pos hp,by simp⟩
    | succ k=>
      obtain⟨h1,h2⟩:=ih' k
      have h3:=prod_pos (l:=l) λy hy=>hp y (by simp[hy])
      refine⟨by simpa using h1,?_⟩
      simp only[List.drop_succ_cons,prod]
      have:1*prod l<=x*prod l:=Int.mul_le_mul_of_nonneg_right hx (by omega)
      omega
theorem pos_of_good{l:List Int}(hg:Good l)(h0:prod l≠0): ∀ x ∈ l,1≤x:=fun x hx=>by
  have:=(hg.2.1 x hx).1
  by_cases h:x=0
  · subst h;exact absurd (prod_zero hx) h0
  · omega
theorem good_short{l:List Int}(hg:Good l):l.length*8<=140737488355328:=by have:=hg.1;omega
def idxV:List Int→Int→List Int
  |[],_=>[]
  |_::l,a=>a / prod l::idxV l (a%prod l)
theorem idxV_length: ∀ l a,(idxV l a).length=l.length
  |[],_=>rfl
  |_::l,a=>by simp[idxV,idxV_length l]
def okIx:List Int→List Int→Bool
  |d::l,x::xs=>decide (0<=x)&&decide (x<d)&&okIx l xs
  |_,_=>true
theorem okIx_idx: ∀ {l:List Int} {a:Int},(∀ x ∈ l,1≤x)→0≤a→a<prod l→okIx l (idxV l a)=true
  |[],_,_,_,_=>rfl
  | d::l,a,hp,h0,h1=>by
    have hq:1<=prod l:=prod_pos λx hx=>hp x (by simp[hx])
    have h2:0<=a / prod l:=Int.ediv_nonneg h0 (by omega)
    have h3:a / prod l<d:=Int.ediv_lt_of_lt_mul (by omega) h1
    have h4:=okIx_idx (l:=l) (a:=a%prod l) (λx hx=>hp x (by simp[hx])) (Int.emod_nonneg _ (by omega)) (Int.emod_lt_of_pos _ (by omega))
    simp[idxV,okIx,h2,h3,h4]
end Go.Av
set_option linter.unusedVariables false
namespace Go.Av
theorem IndexW_spec{fu:Nat}{l:List Int}{a:Int}(hg:Good l)(hn0:1≤prod l)(ha:0≤a)(ha2:a≤4096)(hf:l.length<fu):shape_Index.W1 fu (strdW l) (List.replicate l.length 0) a 0=some (idxV l a,0):=by
  have hp:=pos_of_good hg (by omega)
  have hd:=prod_drop_le hp
  have hP:=hg.2.2
  have hL:=hg.1
  unfold shape_Index.W1
  refine(cloop_ind (λs=>some (s.1.take s.2.2.toNat++idxV (l.drop s.2.2.toNat) s.2.1,(0:Int))) (λ(s:List Int×Int×Int)=>0<=s.2.2/\s.2.2<=l.length/\s.1.length=l.length/\0<=s.2.1/\s.2.1<=4096) (λs=>l.length - s.2.2.toNat) ?_ fu _ ⟨by simp,by simp,by simp,ha,ha2⟩ (by simp;omega)).trans (by simp)
  rintro⟨o,b,i⟩ ⟨h0,h1,h2,h3,h4⟩ next hn
  simp only at h0 h1 h2 h3 h4 hn ⊢
  obtain⟨k,rfl⟩:=Int.eq_ofNat_of_zero_le h0
  unfold shape_Index.L1
  simp only[Int.toNat_natCast,strdW_length]
  by_cases hk:k<l.length
  · obtain⟨d1,d2⟩:=hd (k+1)
    have hw:wk .i64 (prod (l.drop (k+1)))=prod (l.drop (k+1)):=wk_eq (by omega) (by omega)
    rw[if_pos (by omega),at?_nat,strdW_get hk,ob_some,hw]
    have q1:Int.tdiv b (prod (l.drop (k+1)))=b / prod (l.drop (k+1)):=Int.tdiv_eq_ediv_of_nonneg h3
    have q2:Int.tmod b (prod (l.drop (k+1)))=b%prod (l.drop (k+1)):=Int.tmod_eq_emod_of_nonneg h3
    have q3:0<=b / prod (l.drop (k+1)):=Int.ediv_nonneg h3 (by omega)
    have q4:b / prod (l.drop (k+1))<=b:=Int.ediv_le_self _ h3
    have q5:0<=b%prod (l.drop (k+1)):=Int.emod_nonneg _ (by omega)
    have q6:b%prod (l.drop (k+1))<prod (l.drop (k+1)):=Int.emod_lt_of_pos _ (by omega)
    rw[chk_pos (by omega),chk_pos (by omega),q1,q2,wk_eq (by omega) (by omega),wk_succ (by omega)]
    rw[hn (_,_,((k+1:Nat):Int)) ⟨by simp only[];omega,by simp only[];omega,by simp[h2],q5,by simp only[];omega⟩ (by simp;omega)]
    simp only[Int.toNat_natCast,Option.some.injEq,Prod.mk.injEq,and_true]
    rw[List.drop_eq_getElem_cons hk]
    simp only[idxV]
    rw[List.take_succ_eq_append_getElem (by simp;omega),List.append_assoc,List.take_set,List.set_eq_of_length_le (by simp;omega)]
    simp
  · rw[if_neg (by omega),List.drop_of_length_le (by omega),List.take_of_length_le (by omega)]
    simp[idxV]
def indexV(l:List Int)(a:Int):List Int×Int:=if Good l then(if 0<=a/\a<prod l then(idxV l a,0)else([],2))else([],errS l)
theorem Index_spec{fu:Nat}{l:List Int}{a:Int}(hl:Short l)(hf:l.length<fu):shape_Index fu l a=some (indexV l a):=by
  unfold shape_Index;try unfold jn
  rw[Size_spec hl hf,ob_some]
  simp only[sizeV,indexV]
  by_cases hg:Good l
  · simp only[if_pos hg,if_true]
    by_cases h1:a<0
    · rw[if_pos h1,if_neg (by omega)]
    · rw[if_neg h1]
      by_cases h2:prod l<=a
      · rw[if_pos h2,if_neg (by omega)]
      · rw[if_neg h2,if_pos (by omega)]
        unfold shape_Index.k1
        have:=hg.1
        have:=hg.2.2
        rw[chk_pos (by omega),strides_spec (good_short hg) hf,ob_some,Int.toNat_natCast,IndexW_spec hg (by omega) (by omega) (by omega) hf]
  · simp only[if_neg hg]
    rw[if_neg (errS_ne l)]
end Go.Av
set_option linter.unusedVariables false
namespace Go.Av
theorem Clone_spec{fu:Nat}{l:List Int}(h:l.length*8≤140737488355328):slices_Clone_int fu l=some l:=by
  unfold slices_Clone_int
  rw[chk_pos (by omega)]
end Go.Av
set_option linter.unusedVariables false
namespace Go.Av
def sameT(a b:T_Tensor):Bool:=decide (a.fType=b.fType)&&decide (a.fDims=b.fDims)&&decide (a.fF=b.fF)&&decide (a.fI=b.fI)&&decide (a.fB=b.fB)
def Small(t:T_Tensor):Prop:=t.fDims.length*8<=140737488351232/\t.fF.length<=140737488351232/\t.fI.length<=140737488351232/\t.fB.length<=140737488351232
def Fuel(fu:Nat)(t:T_Tensor):Prop:=t.fDims.length<fu/\t.fF.length<fu/\t.fI.length<fu/\t.fB.length<fu
theorem sameT_self(a:T_Tensor):sameT a a=true:=by simp[sameT]
def noT:T_Tensor:=⟨0,[],[],[],[]⟩
theorem known_spec{fu:Nat}{k:Int}:tens_known fu k=some (decide (k=1∨k=7∨k=9)):=by
  unfold tens_known tens_Width
  by_cases h1:k=1
  · simp[h1]
  · by_cases h2:k=7
    · simp[h2]
    · by_cases h3:k=9 <;> simp[h1,h2,h3]
def Known(k:Int):Prop:=k=1∨k=7∨k=9
instance (k:Int):Decidable (Known k):=by unfold Known;infer_instance
def LensOK(t:T_Tensor):Prop:=(t.fF.length:Int)=(if t.fType=1 then prod t.fDims else 0)/\(t.fI.length:Int)=(if t.fType=7 then prod t.fDims else 0)/\(t.fB.length:Int)=(if t.fType=9 then prod t.fDims else 0)
instance (t:T_Tensor):Decidable (LensOK t):=by unfold LensOK;infer_instance
def checkV(t:T_Tensor):Int:=if Known t.fType then(if Good t.fDims then(if LensOK t then 0 else 3)else errS t.fDims)else 5
theorem Check_spec{fu:Nat}{t:T_Tensor}(hs:Small t)(hf:Fuel fu t):tens_Check fu t=some (checkV t):=by
  obtain⟨s1,s2,s3,s4⟩:=hs
  unfold tens_Check checkV;try unfold jn
  rw[known_spec,ob_some,Size_spec (by unfold Short;omega) hf.1]
  by_cases hk:Known t.fType
  · rw [if_pos (by simpa[Known]using hk),ob_some,if_pos hk]
    simp only[sizeV]
    by_cases hg:Good t.fDims
    · simp only[if_pos hg,if_true]
      have hp:=prod_nonneg hg.2.1
      have hsum:wk .i64 ((wk .i64 ((t.fF.length:Int)+(t.fI.length:Int)))+(t.fB.length:Int))=t.fF.length+t.fI.length+t.fB.length:=by
        rw[wk_add_l,wk_eq (by omega) (by omega)]
      unfold tens_Check.k1 LensOK
      simp only[hsum]
      rcases hk with e|e|e
      · simp only[e,show ¬ (1:Int)=7 by decide,show ¬ (1:Int)=9 by decide,if_false,if_true]
        by_cases h1:(t.fF.length:Int)=prod t.fDims
        · by_cases h2:(t.fF.length:Int)+t.fI.length+t.fB.length=prod t.fDims
          · rw[if_pos h1,if_pos h2,if_pos ⟨h1,by omega,by omega⟩]
          · rw[if_pos h1,if_neg h2,if_neg (λh=>h2 (by omega))]
        · rw[if_neg h1,if_neg (λh=>h1 h.1)]
      · simp only[e,show ¬ (7:Int)=1 by decide,show ¬ (7:Int)=9 by decide,if_false,if_true]
        by_cases h1:(t.fI.length:Int)=prod t.fDims
        · by_cases h2:(t.fF.length:Int)+t.fI.length+t.fB.length=prod t.fDims
          · rw[if_pos h1,if_pos h2,if_pos ⟨by omega,h1,by omega⟩]
          · rw[if_pos h1,if_neg h2,if_neg (λh=>h2 (by omega))]
        · rw[if_neg h1,if_neg (λh=>h1 h.2.1)]
      · simp only[e,show ¬ (9:Int)=1 by decide,show ¬ (9:Int)=7 by decide,if_false,if_true]
        by_cases h1:(t.fB.length:Int)=prod t.fDims
        · by_cases h2:(t.fF.length:Int)+t.fI.length+t.fB.length=prod t.fDims
          · rw[if_pos h1,if_pos h2,if_pos ⟨by omega,by omega,h1⟩]
          · rw[if_pos h1,if_neg h2,if_neg (λh=>h2 (by omega))]
        · rw[if_neg h1,if_neg (λh=>h1 h.2.2)]
    · simp only[if_neg hg]
      rw[if_neg (errS_ne _)]
  · rw[if_neg (by simpa[Known]using hk),if_neg hk]
theorem checkV_zero{t:T_Tensor}:checkV t=0 ↔ Known t.fType∧Good t.fDims∧LensOK t:=by
  unfold checkV
  by_cases hk:Known t.fType <;> by_cases hg:Good t.fDims <;> by_cases hl:LensOK t <;> simp[hk,hg,hl,errS_ne]
theorem map_loop{β:Type}{l:List Int}{f:Int→Int}{B:((List Int×Int)→Option β)→(List Int×Int)→Option β}{c:List Int→Option β}{fu:Nat}(hf:l.length<fu)
    (hB: ∀ (next:List Int×Int->Option β) (k:Nat) (m:List Int) (hk:k<l.length),m.length=l.length->(hm:m[k]? =some l[k])->B next (m,(k:Int))=next (m.set k (f l[k]),((k+1:Nat):Int)))
    (hE: ∀ next (m:List Int),m.length=l.length->B next (m,(l.length:Int))=c m):cloop B fu (l,0)=c (l.map f):=by
  have:=cloop_up (body:=B) (n:=fu) l.length (λk=>(l.take k).map f++l.drop k) (c (l.map f)) ?_ ?_ hf
  · simpa using this
  · intro k hk next hn
    have hlk:((l.take k).map f).length=k:=by simp;omega
    rw[hB next k _ hk (by simp;omega) (by rw[List.getElem?_append_right (by omega),hlk,Nat.sub_self,List.getElem?_drop];simp[hk])]
    have e:((l.take k).map f++l.drop k).set k (f l[k])=(l.take (k+1)).map f++l.drop (k+1):=by
      rw[List.set_append_right _ _ (by omega),hlk,Nat.sub_self,List.drop_eq_getElem_cons hk,List.set_cons_zero,List.take_add_one,List.getElem?_eq_getElem hk,List.map_append,List.append_assoc]
      rfl
    rw[e]
    exact hn
  · intro next
    rw[hE _ _ (by simp)]
    simp
def canonF(x:Int):Int:=if 2139095040<x%2147483648 then 2143289344 else x
def canonT(t:T_Tensor):T_Tensor:=⟨t.fType,t.fDims,t.fF.map canonF,t.fI,t.fB⟩
theorem wk_eq32{x:Int}(h0:0≤x)(h1:x<4294967296):wk .u32 x=x:=by
  have:wk .u32 x=x%4294967296:=by simp[wk,IntKind.wrap,IntKind.signed,IntKind.bits]
  rw[this,Int.emod_eq_of_lt h0 h1]
theorem abs_u32{x:Int}(h0:0≤x)(h1:x<4294967296):bandn .u32 x 2147483648=x%2147483648:=by
  unfold bandn
  rw[show IntKind.u32.bits=32 from rfl,show ~~~(BitVec.ofInt 32 2147483648)=BitVec.ofNat 32 (2 ^ 31 - 1)by decide,BitVec.toNat_and,BitVec.toNat_ofNat,BitVec.toNat_ofInt]
  have:(2 ^ 31 - 1)%2 ^ 32=2 ^ 31 - 1:=by decide
  rw[this,Nat.and_two_pow_sub_one_eq_mod]
  have hw:=wk_eq32 (x:=(((x%((2 ^ 32:Nat):Int)).toNat%2 ^ 31:Nat):Int)) (by omega) (by omega)
  unfold wk at hw
  rw[hw]
  omega
theorem softCanon_spec{fu:Nat}{x:Int}(h0:0≤x)(h1:x<4294967296):soft_Canon fu x=some (canonF x):=by
  unfold soft_Canon soft_NaN soft_Abs canonF
  rw[abs_u32 h0 h1,ob_some,ob_some]
  by_cases h:2139095040<x%2147483648 <;> simp[h]
def Ten(t:T_Tensor):Prop:=t.fDims.length*8<=140737488351232/\t.fF.length*4<=140737488351232/\t.fI.length*8<=140737488351232/\t.fB.length<=140737488351232/\ ∀ x ∈ t.fF,0<=x/\x<4294967296
theorem Ten.small{t:T_Tensor}(h:Ten t):Small t:=by obtain⟨a,b,c,d,_⟩:=h;exact⟨a,by omega,by omega,by omega⟩
theorem Copy_spec{fu:Nat}{t:T_Tensor}(h:Ten t):tens_Copy fu t=some t:=by
  obtain⟨h1,h2,h3,h4,_⟩:=h
  unfold tens_Copy tens_own_int tens_own_uint32 tens_own_int64 tens_own_bool
  rw[chk_pos (by omega),ob_some,chk_pos (by omega),ob_some,chk_pos (by omega),ob_some,chk_pos (by omega),ob_some]
theorem Canon_spec{fu:Nat}{t:T_Tensor}(h:Ten t)(hf:t.fF.length<fu):tens_Canon fu t=some (canonT t):=by
  have hu:=h.2.2.2.2
  have hl:=h.2.1
  unfold tens_Canon
  rw[Copy_spec h,ob_some]
  unfold tens_Canon.W1
  refine map_loop (f:=canonF) (c:=λm=>some (T_Tensor.mk t.fType t.fDims m t.fI t.fB)) hf ?_ ?_
  · intro next k m hk hm hg
    unfold tens_Canon.L1
    simp only[]
    obtain⟨u1,u2⟩:=hu _ (List.getElem_mem hk)
    rw[if_pos (by omega),at?_nat,hg,ob_some,softCanon_spec u1 u2,ob_some,chk_pos (by omega),wk_succ (by omega)]
    rfl
  · intro next m hm
    unfold tens_Canon.L1
    rw[if_neg (by simp)]
end Go.Av
set_option linter.unusedVariables false
namespace Go.Av
theorem drop_same{a b:List Int}{i:Nat}(ha:i<a.length)(hb:i<b.length):a.drop i=b.drop i ↔ a[i]=b[i]∧a.drop (i+1)=b.drop (i+1):=by
  rw[List.drop_eq_getElem_cons ha,List.drop_eq_getElem_cons hb]
  exact List.cons_eq_cons
theorem SameInts_spec{fu:Nat}{a b:List Int}(hl:Short a)(hf:a.length<fu):ref04_SameInts fu a b=some (decide (a=b)):=by
  unfold ref04_SameInts ref04_SameInts.W1
  by_cases hlen:a.length=b.length
  · rw [if_pos (by omega)]
    refine(cloop_ind (λ(i:Int)=>some (decide (a.drop i.toNat=b.drop i.toNat))) (λi=>0<=i/\i<=a.length) (λi=>a.length - i.toNat) ?_ fu 0 (by simp) (by simp;omega)).trans (by simp)
    rintro i ⟨h0,h1⟩ next hn
    obtain⟨k,rfl⟩:=Int.eq_ofNat_of_zero_le h0
    unfold ref04_SameInts.L1
    simp only[Int.toNat_natCast]
    by_cases hk:k<a.length
    · rw[if_pos (by omega),at?_get hk,ob_some,at?_get (by omega:k<b.length),ob_some,wk_succ (by unfold Short at hl;omega)]
      have hd:=drop_same hk (by omega:k<b.length)
      by_cases he:a[k]=b[k]
      · rw[if_pos he,hn _ (by omega) (by simp;omega)]
        simp[hd,he]
      · rw[if_neg he]
        simp[hd,he]
    · rw[if_neg (by omega)]
      have e1:a.drop k=b.drop k:=by rw[List.drop_of_length_le (by omega),List.drop_of_length_le (by omega)]
      simp[e1]
  · rw[if_neg (by omega)]
    have: ¬ a=b:=λh=>hlen (by rw[h])
    simp[this]
end Go.Av
set_option linter.unusedVariables false
namespace Go.Av
theorem same_loop{α:Type}[DecidableEq α]{a b:List α}(hl:a.length=b.length){fu:Nat}(hf:a.length<fu)(hs:a.length≤140737488355328){L:(Int→Option Bool)→Int→Option Bool}{c:Option Bool}
    (hL: ∀ nx i,L nx i=if i<(a.length:Int)then((at? a i).bind λx=>(at? b i).bind λy=>if x=y then(nx (wk .i64 (i+1)))else some false)else c):cloop L fu 0=if a=b then c else some false:=by
  refine(cloop_ind (λ(i:Int)=>if a.drop i.toNat=b.drop i.toNat then c else some false) (λi=>0<=i/\i<=a.length) (λi=>a.length - i.toNat) ?_ fu 0 (by simp) (by simp;omega)).trans (by simp)
  rintro i ⟨h0,h1⟩ next hn
  obtain⟨k,rfl⟩:=Int.eq_ofNat_of_zero_le h0
  rw[hL]
  simp only[Int.toNat_natCast]
  by_cases hk:k<a.length
  · have hkb:k<b.length:=by omega
    have hd:a.drop k=b.drop k ↔ a[k]=b[k]∧a.drop (k+1)=b.drop (k+1):=by
      rw[List.drop_eq_getElem_cons hk,List.drop_eq_getElem_cons hkb];exact List.cons_eq_cons
    rw[if_pos (by omega),at?_get hk,ob_some,at?_get hkb,ob_some,wk_succ (by omega)]
    by_cases he:a[k]=b[k]
    · rw[if_pos he,hn _ (by omega) (by simp;omega)]
      by_cases h2:a.drop (k+1)=b.drop (k+1)
      · rw[if_pos (by simpa using h2),if_pos (hd.2 ⟨he,h2⟩)]
      · rw[if_neg (by simpa using h2),if_neg (λh=>h2 (hd.1 h).2)]
    · rw[if_neg he,if_neg (λh=>he (hd.1 h).1)]
  · rw[if_neg (by omega),if_pos (by rw[List.drop_of_length_le (by omega),List.drop_of_length_le (by omega)])]
theorem refSame_spec{fu:Nat}{a b:T_Tensor}(hs:Small a)(hf:Fuel fu a):ref05_Same fu a b=some (sameT a b):=by
  obtain⟨s1,s2,s3,s4⟩:=hs
  obtain⟨f1,f2,f3,f4⟩:=hf
  unfold ref05_Same sameT;try unfold jn
  by_cases h1:a.fType=b.fType
  · rw [if_pos h1,SameInts_spec (by unfold Short;omega) f1,ob_some]
    by_cases h2:a.fDims=b.fDims
    · rw [if_pos (by simpa using h2)]
      by_cases l3:a.fF.length=b.fF.length
      · rw [if_pos (by omega)]
        by_cases l4:a.fI.length=b.fI.length
        · rw[if_pos (by omega)]
          by_cases l5:a.fB.length=b.fB.length
          · rw[if_pos (by omega)]
            unfold ref05_Same.k1 ref05_Same.W3;try unfold jn
            rw[same_loop (L:=λnext s=>ref05_Same.L3 fu a b next s) (a:=a.fF) (b:=b.fF) l3 f2 (by omega) (c:=ref05_Same.k2 fu a b) (λnx i=>rfl)]
            unfold ref05_Same.k2 ref05_Same.W2;try unfold jn
            rw[same_loop (L:=λnext s=>ref05_Same.L2 fu a b next s) (a:=a.fI) (b:=b.fI) l4 f3 (by omega) (c:=ref05_Same.k3 fu a b) (λnx i=>rfl)]
            unfold ref05_Same.k3 ref05_Same.W1
            rw[same_loop (L:=λnext s=>ref05_Same.L1 fu a b next s) (a:=a.fB) (b:=b.fB) l5 f4 (by omega) (c:=some true) (λnx i=>by unfold ref05_Same.L1;simp only[beq_iff_eq])]
            by_cases e3:a.fF=b.fF <;> by_cases e4:a.fI=b.fI <;> by_cases e5:a.fB=b.fB <;> simp[h1,h2,e3,e4,e5]
          · rw[if_neg (by omega)]
            have: ¬ a.fB=b.fB:=λh=>l5 (by rw[h])
            simp[this]
        · rw[if_neg (by omega)]
          have: ¬ a.fI=b.fI:=λh=>l4 (by rw[h])
          simp[this]
      · rw[if_neg (by omega)]
        have: ¬ a.fF=b.fF:=λh=>l3 (by rw[h])
        simp[this]
    · rw[if_neg (by simpa using h2)]
      simp[h2]
  · rw[if_neg h1]
    simp[h1]
end Go.Av
set_option linter.unusedVariables false
namespace Go.Av
theorem cloop_succ{σ β:Type}{body:(σ->Option β)->σ->Option β}{n:Nat}{s:σ}:cloop body (n+1) s=body (cloop body n) s:=rfl
def zeroVal:T_Val:=⟨0,[],false,⟨0,[],[],[],[]⟩⟩
def valOf(t:T_Tensor):T_Val:=if t.fType=0 then zeroVal else⟨t.fType,t.fDims,true,t⟩
def Tens(fu:Nat)(l:List T_Tensor):Prop:=l.length<=1048576/\l.length<fu/\ ∀ t ∈ l,Ten t/\Fuel fu t
theorem CloneI_spec{fu:Nat}{l:List Int}(h:l.length*8≤140737488351232):slices_Clone_int fu l=some l:=by
  unfold slices_Clone_int;rw[chk_pos (by omega)]
theorem take_next{α β:Type}{f:α→β}{l:List α}{k:Nat}(hk:k<l.length):(l.take (k+1)).map f=(l.take k).map f++[f l[k]]:=by
  rw[List.take_add_one,List.getElem?_eq_getElem hk,List.map_append];rfl
theorem Vals_all{fu:Nat}{l:List T_Tensor}(h:Tens fu l):ewise_Vals fu l=some (l.map valOf):=by
  unfold ewise_Vals ewise_Vals.W1
  have hl0:=h.1
  refine cloop_up l.length (λk=>(l.take k).map valOf) _ ?_ ?_ h.2.1
  · intro k hk next hn
    have ht:=(h.2.2 _ (List.getElem_mem hk)).1
    show ewise_Vals.L1 fu l _ _ (k:Int)=_
    have hl:((l.take k).map valOf).length=k:=by simp;omega
    rw[take_next hk]at hn
    rw[ewise_Vals.L1,if_pos (by omega),at?_get hk,ob_some,wk_succ (by omega)]
    by_cases h0:l[k].fType=0
    · rw[if_pos h0,chk_pos (by rw[hl];omega)]
      rw[valOf,if_pos h0]at hn
      exact hn
    · rw[if_neg h0,CloneI_spec ht.1,ob_some,Copy_spec ht,ob_some,chk_pos (by rw[hl];omega)]
      rw[valOf,if_neg h0]at hn
      exact hn
  · intro next
    show ewise_Vals.L1 fu l _ _ (l.length:Int)=_
    rw[ewise_Vals.L1,if_neg (by omega),List.take_length]
def badV:List T_Tensor→Option Int
  |[]=>none
  |t::l=>if t.fType=0∨checkV t=0 then badV l else some (checkV t)
theorem badV_none{l:List T_Tensor}(h:badV l=none): ∀ t ∈ l,t.fType=0∨checkV t=0:=by
  induction l with
  |nil=>intro t ht;cases ht
  | cons x l ih=>
    unfold badV at h
    split at h
    · rename_i hx
      intro t ht
      rcases List.mem_cons.1 ht with rfl|ht
      · exact hx
      · exact ih h t ht
    · cases h
theorem badV_some{l:List T_Tensor}{e:Int}(h:badV l=some e):e≠0:=by
  induction l with
  |nil=>cases h
  | cons x l ih=>
    unfold badV at h
    split at h
    · exact ih h
    · rename_i hx
      injection h with h
      subst h
      exact λh0=>hx (.inr h0)
theorem head_loop{β:Type}{fu:Nat}{l:List T_Tensor}(h:Tens fu l){k1:List T_Tensor→Option β}{er:Int→Option β}{L:(List T_Tensor→Int→Option β)→List T_Tensor→Int→Option β}
    (hL: ∀ nx acc i,L nx acc i=if i<(l.length:Int)then((at? l i).bind fun x=>if x.fType=0 then((tens_Canon fu x).bind fun y=>chk ((acc.length+1:Int)*104≤140737488355328)<|nx (acc++([y])) (wk .i64 (i+1)))else
      (tens_Check fu x).bind λc=>if c=0 then((tens_Canon fu x).bind λy=>chk ((acc.length+1:Int)*104<=140737488355328)<|nx (acc++([y])) (wk .i64 (i+1)))else er c)else k1 acc):
    cloop (λnext s=>L (λa b=>next (a,b)) s.1 s.2) fu (([]:List T_Tensor),(0:Int))=match badV l with|some e=>er e|none=>k1 (l.map canonT):=by
  have hl0:=h.1
  have key : ∀ m q k:Nat,l.length - k=m→k≤l.length→m<q→cloop (fun next s=>L (fun a b=>next (a,b)) s.1 s.2) q ((l.take k).map canonT,(k:Int))=match badV (l.drop k)with|some e=>er e|none=>k1 (l.map canonT):=by
    intro m
    induction m with
    | zero=>
      intro q k h1 h2 h3
      cases q with
      |zero=>omega
      | succ q=>
        have:k=l.length:=by omega
        subst this
        rw[cloop_succ]
        show L _ _ (l.length:Int)=_
        rw[hL,if_neg (by omega),List.take_length,List.drop_length]
        rfl
    | succ m ih=>
      intro q k h1 h2 h3
      cases q with
      |zero=>omega
      | succ q=>
        have hk:k<l.length:=by omega
        obtain⟨ht,hf⟩:=h.2.2 _ (List.getElem_mem hk)
        have hl:((l.take k).map canonT).length=k:=by simp;omega
        have hn:=ih q (k+1) (by omega) (by omega) (by omega)
        rw[take_next hk]at hn
        rw[cloop_succ]
        show L _ _ (k:Int)=_
        rw[hL,if_pos (by omega),at?_get hk,ob_some,wk_succ (by omega),List.drop_eq_getElem_cons hk]
        unfold badV
        by_cases h0:l[k].fType=0
        · rw[if_pos h0,Canon_spec ht hf.2.1,ob_some,chk_pos (by rw[hl];omega),if_pos (.inl h0)]
          exact hn
        · rw[if_neg h0,Check_spec ht.small hf,ob_some]
          by_cases hc:checkV l[k]=0
          · rw[if_pos hc,Canon_spec ht hf.2.1,ob_some,chk_pos (by rw[hl];omega),if_pos (.inr hc)]
            exact hn
          · rw[if_neg hc,if_neg (λhh=>hh.elim h0 hc)]
  exact key l.length fu 0 (by omega) (by omega) h.2.1
end Go.Av
set_option linter.unusedVariables false
namespace Go.Av
theorem Equal_spec{fu:Nat}{a b:List Int}(hl:Short a)(hf:a.length<fu):slices_Equal_int fu a b=some (decide (a=b)):=by
  unfold slices_Equal_int slices_Equal_int.W1
  by_cases hlen:a.length=b.length
  · rw [if_pos (by omega)]
    refine(cloop_ind (λ(i:Int)=>some (decide (a.drop i.toNat=b.drop i.toNat))) (λi=>0<=i/\i<=a.length) (λi=>a.length - i.toNat) ?_ fu 0 (by simp) (by simp;omega)).trans (by simp)
    rintro i ⟨h0,h1⟩ next hn
    obtain⟨k,rfl⟩:=Int.eq_ofNat_of_zero_le h0
    unfold slices_Equal_int.L1
    simp only[Int.toNat_natCast]
    by_cases hk:k<a.length
    · rw[if_pos (by omega),at?_get hk,ob_some,at?_get (by omega:k<b.length),ob_some,wk_succ (by unfold Short at hl;omega)]
      have hd:=drop_same hk (by omega:k<b.length)
      by_cases he:a[k]=b[k]
      · rw[if_pos he,hn _ (by omega) (by simp;omega)]
        simp[hd,he]
      · rw[if_neg he]
        simp[hd,he]
    · rw[if_neg (by omega)]
      have e1:a.drop k=b.drop k:=by rw[List.drop_of_length_le (by omega),List.drop_of_length_le (by omega)]
      simp[e1]
  · rw[if_neg (by omega)]
    have: ¬ a=b:=λh=>hlen (by rw[h])
    simp[this]
def zipB:List Int→List Int→Option (List Int)
  |x::a,d::b=>if x=1 then(zipB a b).map (d:: ·)else if d=1∨d=x then(zipB a b).map (x:: ·)else none
  |_,_=>some []
def bc'(a b:List Int):Option (List Int):=(zipB (a.drop (a.length - b.length)) b).map (a.take (a.length - b.length)++ ·)
def bc(a b:List Int):Option (List Int):=if a.length<b.length then bc' b a else bc' a b
def broadcastV(a b:List Int):List Int×Int:=
  if Good a then(if Good b then(match bc a b with
    |some l=>if Good l then(l,0)else([],errS l)
    |none=>([],3))else([],errS b))else([],errS a)
theorem zipB_length: ∀ {a b r:List Int},a.length=b.length→zipB a b=some r→r.length=b.length
  |[],[],r,_,h=>by simp[zipB]at h;subst h;rfl
  | x ::a,d::b,r,hl,h=>by
    simp only[zipB]at h
    have hl':a.length=b.length:=by simpa using hl
    split at h
    · simp only[Option.map_eq_some_iff]at h
      obtain⟨q,hq,rfl⟩:=h
      simp[zipB_length hl' hq]
    · split at h
      · simp only[Option.map_eq_some_iff]at h
        obtain⟨q,hq,rfl⟩:=h
        simp[zipB_length hl' hq]
      · cases h
theorem bc'_length{a b r:List Int}(hl:b.length≤a.length)(h:bc' a b=some r):r.length=a.length:=by
  unfold bc' at h
  simp only[Option.map_eq_some_iff]at h
  obtain⟨q,hq,rfl⟩:=h
  have:=zipB_length (by simp;omega) hq
  simp;omega
theorem k3_spec{fu:Nat}{l:List Int}(hl:Short l)(hf:l.length<fu):shape_Broadcast.k3 fu l=some (if Good l then(l,0)else([],errS l)):=by
  unfold shape_Broadcast.k3
  rw[Size_spec hl hf,ob_some]
  simp only[sizeV]
  by_cases hg:Good l
  · simp only[if_pos hg,if_true]
  · simp only[if_neg hg]
    rw[if_neg (errS_ne l)]
theorem BW_spec{fu:Nat}{a b:List Int}(ha:a.length≤8)(hl:b.length≤a.length)(hf:9<fu):shape_Broadcast.W1 fu a b a 0=some (match bc' a b with
    |some l=>if Good l then(l,0)else([],errS l)
    |none=>([],3)):=by
  unfold shape_Broadcast.W1
  have key: ∀ l:List Int,l.length=a.length->shape_Broadcast.k3 fu l=some (if Good l then(l,0)else([],errS l)):=λl h=>k3_spec (by unfold Short;omega) (by omega)
  have hah:wk .i64 ((a.length:Int) - (b.length:Int))=((a.length - b.length:Nat):Int):=by rw[wk_eq (by omega) (by omega)];omega
  generalize hA:a.length - b.length=A at hah
  refine(cloop_ind (fun(s:List Int×Int)=>some (match (zipB (s.1.drop (A+s.2.toNat)) (b.drop s.2.toNat)).map (s.1.take (A+s.2.toNat)++ ·)with
    |some l=>if Good l then(l,0)else([],errS l)
    |none=>([],3))) (λs=>0<=s.2/\s.2<=b.length/\s.1.length=a.length) (λs=>b.length - s.2.toNat) ?_ fu (a,0) ⟨by simp,by simp,rfl⟩ (by simp;omega)).trans (by simp[bc',hA])
  rintro⟨o,i⟩ ⟨h0,h1,h2⟩ next hn
  simp only at h0 h1 h2 hn ⊢
  obtain⟨k,rfl⟩:=Int.eq_ofNat_of_zero_le h0
  unfold shape_Broadcast.L1
  simp only[Int.toNat_natCast,hah]
  have hidx:wk .i64 ((A:Int)+(k:Int))=((A+k:Nat):Int):=by rw[wk_eq (by omega) (by omega)];omega
  by_cases hk:k<b.length
  · have hko:A+k<o.length:=by omega
    rw[if_pos (by omega),at?_get hk,ob_some,hidx,at?_get hko,ob_some,wk_succ (by omega),Int.toNat_natCast]
    rw[List.drop_eq_getElem_cons hko,List.drop_eq_getElem_cons hk]
    simp only[zipB]
    have hnext: ∀ o':List Int,o'.length=a.length->next (o',((k+1:Nat):Int))=_:=λo' ho'=>hn (o',((k+1:Nat):Int)) ⟨by simp only[];omega,by simp only[];omega,ho'⟩ (by simp;omega)
    simp only[Int.toNat_natCast]at hnext
    by_cases h3:o[A+k]=1
    · rw[if_pos h3,if_pos h3,chk_pos (by omega),hnext _ (by simp[h2])]
      have e1:(o.set (A+k) b[k]).drop (A+(k+1))=o.drop (A+k+1):=by
        rw[List.drop_set_of_lt (by omega)];rfl
      have e2:(o.set (A+k) b[k]).take (A+(k+1))=o.take (A+k)++[b[k]]:=by
        rw[← Nat.add_assoc,List.take_succ_eq_append_getElem (by simp;omega),List.take_set,List.set_eq_of_length_le (by simp;omega)]
        simp
      rw[e1,e2]
      cases zipB (o.drop (A+k+1)) (b.drop (k+1)) <;> simp
    · rw [if_neg h3,if_neg h3]
      have e2:o.take (A+(k+1))=o.take (A+k)++[o[A+k]]:=by
        rw[← Nat.add_assoc,List.take_succ_eq_append_getElem hko]
      by_cases h4:b[k]=1
      · rw[if_pos h4,if_pos (.inl h4),hnext _ h2,e2]
        cases zipB (o.drop (A+k+1)) (b.drop (k+1))with
        |none=>rfl
        |some r=>simp only[Option.map_some,List.append_assoc,List.cons_append,List.nil_append]
      · rw[if_neg h4]
        by_cases h5:b[k]=o[A+k]
        · rw[if_pos h5,if_pos (.inr h5),hnext _ h2,e2]
          cases zipB (o.drop (A+k+1)) (b.drop (k+1))with
          |none=>rfl
          |some r=>simp only[Option.map_some,List.append_assoc,List.cons_append,List.nil_append]
        · rw[if_neg h5,if_neg (fun h=>h.elim h4 h5)]
          rfl
  · rw[if_neg (by omega),key o h2,List.drop_of_length_le (by omega),List.drop_of_length_le (by omega),List.take_of_length_le (by omega)]
    simp[zipB]
theorem Broadcast_spec{fu:Nat}{a b:List Int}(ha:Short a)(hb:Short b)(hfa:a.length<fu)(hfb:b.length<fu)(hf:9<fu):shape_Broadcast fu a b=some (broadcastV a b):=by
  unfold shape_Broadcast shape_Broadcast.W2;(try unfold jn)
  have hk1:Good a→Good b→ ∀ z,shape_Broadcast.k1 fu a b z=some (broadcastV a b):=by
    intro ga gb z
    unfold shape_Broadcast.k1 shape_Broadcast.k2;(try unfold jn)
    simp only[broadcastV,if_pos ga,if_pos gb,bc]
    by_cases hlt:a.length<b.length
    · rw[if_pos (by omega),if_pos hlt,Clone_spec (good_short gb),ob_some,BW_spec gb.1 (by omega) hf]
    · rw[if_neg (by omega),if_neg hlt,Clone_spec (good_short ga),ob_some,BW_spec ga.1 (by omega) hf]
  obtain⟨f,rfl⟩: ∃ f,fu=f+3:=⟨fu - 3,by omega⟩
  have h0:at? [a,b] (0:Int)=some a:=rfl
  have h1:at? [a,b] (1:Int)=some b:=rfl
  have w0:wk .i64 ((0:Int)+1)=1:=by decide
  have w1:wk .i64 ((1:Int)+1)=2:=by decide
  unfold cloop shape_Broadcast.L2
  simp only
  rw[if_pos (by decide),h0,ob_some,Size_spec ha hfa,ob_some]
  simp only[sizeV]
  by_cases ga:Good a
  · simp only[if_pos ga,if_true,w0]
    unfold cloop
    simp only
    rw[if_pos (by decide),h1,ob_some,Size_spec hb hfb,ob_some]
    simp only[sizeV]
    by_cases gb:Good b
    · simp only[if_pos gb,if_true,w1]
      unfold cloop
      simp only
      rw[if_neg (by decide),hk1 ga gb]
    · simp only[if_neg gb]
      rw[if_neg (errS_ne b)]
      simp[broadcastV,ga,gb]
  · simp only[if_neg ga]
    rw[if_neg (errS_ne a)]
    simp[broadcastV,ga]
end Go.Av
set_option linter.unusedVariables false
namespace Go.Av
theorem zipB_comm: ∀ {a b:List Int},a.length=b.length→zipB a b=zipB b a
  |[],[],_=>rfl
  | x ::a,d::b,h=>by
    have ih:=zipB_comm (a:=a) (b:=b) (by simpa using h)
    simp only[zipB,ih]
    by_cases h1:x=1 <;> by_cases h2:d=1
    · subst h1 h2;rfl
    · subst h1;simp[h2]
    · subst h2;simp[h1]
    · by_cases h3:d=x
      · subst h3;simp[h1]
      · have h4: ¬ x=d:=fun h=>h3 h.symm
        simp[h1,h2,h3,h4]
theorem bc_comm{a b:List Int}:bc a b=bc b a:=by
  unfold bc
  by_cases h1:a.length<b.length
  · rw[if_pos h1,if_neg (by omega)]
  · rw[if_neg h1]
    by_cases h2:b.length<a.length
    · rw[if_pos h2]
    · rw[if_neg h2]
      have hl:a.length=b.length:=by omega
      unfold bc'
      rw[hl]
      simp[zipB_comm hl]
theorem zipB_self: ∀ {r:List Int},zipB r r=some r
  |[]=>rfl
  | x::r=>by
    simp only[zipB,zipB_self (r:=r)]
    by_cases h:x=1
    · simp[h]
    · simp[h]
theorem zipB_right: ∀ {a b r:List Int},a.length=b.length→zipB a b=some r→zipB r b=some r
  |[],[],r,_,h=>by simp[zipB]at h;subst h;rfl
  | x ::a,d::b,r,hl,h=>by
    simp only[zipB]at h
    have hl':a.length=b.length:=by simpa using hl
    split at h
    · simp only[Option.map_eq_some_iff]at h
      obtain⟨q,hq,rfl⟩:=h
      have ih:=zipB_right hl' hq
      simp only[zipB,ih]
      by_cases h1:d=1 <;> simp[h1]
    · split at h
      · rename_i hx hd
        simp only[Option.map_eq_some_iff]at h
        obtain⟨q,hq,rfl⟩:=h
        have ih:=zipB_right hl' hq
        simp only[zipB,ih,if_neg hx,if_pos hd]
        rfl
      · cases h
theorem bc'_right{a b r:List Int}(hl:b.length≤a.length)(h:bc' a b=some r):bc' r b=some r:=by
  have hrl:=bc'_length hl h
  unfold bc' at h ⊢
  simp only[Option.map_eq_some_iff]at h
  obtain⟨q,hq,rfl⟩:=h
  have hda:(a.drop (a.length - b.length)).length=b.length:=by simp;omega
  have hz:=zipB_right hda hq
  rw[hrl]
  have hpl:(a.take (a.length - b.length)).length=a.length - b.length:=by simp
  have e1:(a.take (a.length - b.length)++q).drop (a.length - b.length)=q:=by
    rw[List.drop_append_of_le_length (by omega),List.drop_of_length_le (by omega)];rfl
  have e2:(a.take (a.length - b.length)++q).take (a.length - b.length)=a.take (a.length - b.length):=by
    rw[List.take_append_of_le_length (by omega),List.take_of_length_le (by omega)]
  rw[e1,e2,hz];rfl
theorem bc'_left{a b r:List Int}(hl:b.length≤a.length)(h:bc' a b=some r):bc' r a=some r:=by
  have hrl:=bc'_length hl h
  unfold bc' at h ⊢
  simp only[Option.map_eq_some_iff]at h
  obtain⟨q,hq,rfl⟩:=h
  have hda:(a.drop (a.length - b.length)).length=b.length:=by simp;omega
  rw[zipB_comm hda]at hq
  have hz:=zipB_right hda.symm hq
  rw[hrl,Nat.sub_self,List.drop_zero,List.take_zero]
  have key: ∀ (p q s:List Int),zipB q s=some q→zipB (p++q) (p++s)=some (p++q):=by
    intro p
    induction p with
    |nil=>intro q s h;exact h
    | cons x p ih=>
      intro q s h
      simp only[List.cons_append,zipB,ih q s h]
      by_cases h1:x=1 <;> simp[h1]
  have:=key (a.take (a.length - b.length)) q (a.drop (a.length - b.length)) hz
  rw[List.take_append_drop]at this
  rw[this];rfl
theorem bc_left{a b r:List Int}(h:bc a b=some r):bc r a=some r∧bc b r=some r∧bc r r=some r∧a.length≤r.length∧b.length≤r.length∧r.length=max a.length b.length:=by
  have hrr:bc r r=some r:=by simp[bc,bc',zipB_self]
  unfold bc at h
  by_cases hlt:a.length<b.length
  · rw[if_pos hlt]at h
    have hrl:=bc'_length (by omega) h
    have h1:=bc'_right (by omega) h
    have h2:=bc'_left (by omega) h
    refine⟨by unfold bc;rw[if_neg (by omega)];exact h1,?_,hrr,by omega,by omega,by omega⟩
    rw[bc_comm]
    unfold bc;rw[if_neg (by omega)];exact h2
  · rw[if_neg hlt]at h
    have hrl:=bc'_length (by omega) h
    have h1:=bc'_right (by omega) h
    have h2:=bc'_left (by omega) h
    refine⟨by unfold bc;rw[if_neg (by omega)];exact h2,?_,hrr,by omega,by omega,by omega⟩
    rw[bc_comm]
    unfold bc;rw[if_neg (by omega)];exact h1
def fromS:List Int→List Int→Int
  |d::l,x::xs=>(if d=1 then 0 else x*prod l)+fromS l xs
  |_,_=>0
def fromV(s l:List Int)(a:Int):Int×Int:=
  if Good s then(if Good l then(if broadcastV s l=(l,0)then(if 0<=a/\a<prod l then(fromS s ((idxV l a).drop (l.length - s.length)),0)else(0,2))else(0,3))else(0,errS l))else(0,errS s)
def dimsFit:List Int→List Int→Prop
  |d::s,x::l=>(d=1∨d=x)/\dimsFit s l
  |_,_=>True
theorem zipB_fit: ∀ {a b:List Int},a.length=b.length→zipB a b=some a→dimsFit b a
  |[],[],_,_=>trivial
  | x ::a,d::b,hl,h=>by
    simp only[zipB]at h
    have hl':a.length=b.length:=by simpa using hl
    split at h
    · rename_i hx
      simp only[Option.map_eq_some_iff]at h
      obtain⟨q,hq,he⟩:=h
      injection he with h1 h2
      subst h2
      exact⟨.inr h1,zipB_fit hl' hq⟩
    · split at h
      · rename_i hx hd
        simp only[Option.map_eq_some_iff]at h
        obtain⟨q,hq,he⟩:=h
        injection he with h1 h2
        subst h2
        exact⟨hd,zipB_fit hl' hq⟩
      · cases h
theorem bcast_fit{s l:List Int}(hs:Good s)(hlg:Good l)(h:broadcastV s l=(l,0)):s.length≤l.length∧bc s l=some l∧dimsFit s (l.drop (l.length - s.length)):=by
  simp only[broadcastV,if_pos hs,if_pos hlg]at h
  cases hb:bc s l with
  |none=>rw[hb]at h;simp at h
  | some r=>
    rw[hb]at h
    simp only at h
    have hr:r=l:=by
      split at h
      · exact(Prod.mk.inj h).1
      · exact absurd (Prod.mk.inj h).2 (errS_ne r)
    subst hr
    obtain⟨h1,_,_,h4,_,_⟩:=bc_left hb
    refine⟨h4,rfl,?_⟩
    unfold bc at h1
    rw[if_neg (by omega)]at h1
    unfold bc' at h1
    simp only[Option.map_eq_some_iff]at h1
    obtain⟨q,hq,he⟩:=h1
    have:q=r.drop (r.length - s.length):=by
      have:=congrArg (List.drop (r.length - s.length)) he
      rwa[List.drop_append_of_le_length (by simp),List.drop_of_length_le (by simp),List.nil_append]at this
    rw[this]at hq
    exact zipB_fit (by simp;omega) hq
theorem okIx_drop: ∀ (k:Nat) {l xs:List Int},okIx l xs=true→okIx (l.drop k) (xs.drop k)=true
  |0,_,_,h=>by simpa using h
  |k+1,[],xs,h=>by simp[okIx]
  |k+1,_::_,[],h=>by cases h':(List.drop (k+1) _:List Int) <;> simp[okIx]
  | k+1,d::l,x::xs,h=>by
    simp only[okIx,Bool.and_eq_true]at h
    simpa using okIx_drop k h.2
theorem fit_drop: ∀ {s l:List Int} (hl:s.length=l.length),dimsFit s l→ ∀ (k:Nat) (h:k<s.length),(s[k]=1∨s[k]=l[k]'(hl ▸ h))
  |d::s,x::l,hl,hf,0,_=>hf.1
  | d::s,x::l,hl,hf,k+1,h=>by
    have:=fit_drop (s:=s) (l:=l) (by simpa using hl) hf.2 k (by simpa using h)
    simpa using this
theorem okIx_get: ∀ {l xs:List Int} (hl:l.length=xs.length),okIx l xs=true→ ∀ (k:Nat) (h:k<l.length),0≤xs[k]'(hl ▸ h)∧xs[k]'(hl ▸ h)<l[k]
  | d::l,x::xs,hl,ho,0,_=>by
    simp only[okIx,Bool.and_eq_true,decide_eq_true_eq]at ho
    exact ho.1
  | d::l,x::xs,hl,ho,k+1,h=>by
    simp only[okIx,Bool.and_eq_true]at ho
    have:=okIx_get (l:=l) (xs:=xs) (by simpa using hl) ho.2 k (by simpa using h)
    simpa using this
theorem FromW_spec{fu:Nat}{s l:List Int}{a:Int}(hs:Good s)(hlg:Good l)(hls:s.length≤l.length)(hfit:dimsFit s (l.drop (l.length - s.length)))(h0:0≤a)(h1:a<prod l)(hf:9<fu)(e:Int):
    shape_From.W1 fu s l (idxV l a,e) (strdW s) 0 0=some (fromS s ((idxV l a).drop (l.length - s.length)),0):=by
  have hL:=hlg.1
  have hS:=hs.1
  have hP:=hs.2.2
  have hn:prod l≠0:=by omega
  have hok:=okIx_drop (l.length - s.length) (okIx_idx (pos_of_good hlg hn) h0 h1)
  have hil:=idxV_length l a
  have hw:wk .i64 ((l.length:Int) - (s.length:Int))=((l.length - s.length:Nat):Int):=by rw[wk_eq (by omega) (by omega)];omega
  unfold shape_From.W1
  generalize hA:l.length - s.length=A at hw hok hfit ⊢
  generalize hx:(idxV l a).drop A=xs at hok ⊢
  have hxl:xs.length=s.length:=by rw[← hx];simp[hil];omega
  have hdl:(l.drop A).length=s.length:=by simp;omega
  have hsub:subN (idxV l a) (A:Int).toNat (idxV l a).length=xs:=by
    simp only[subN,Int.toNat_natCast,hx,hil]
    rw[List.take_of_length_le (by omega)]
  refine(cloop_ind (λ(t:Int×Int)=>some (t.1+fromS (s.drop t.2.toNat) (xs.drop t.2.toNat),(0:Int))) (λt=>0<=t.2/\t.2<=s.length/\0<=t.1/\t.1+prod (s.drop t.2.toNat)<=4096) (λt=>s.length - t.2.toNat) ?_ fu (0,0) ⟨by simp,by simp,by simp,by simpa using hP⟩ (by simp;omega)).trans (by simp)
  rintro⟨o,i⟩ ⟨q0,q1,q2,q3⟩ next hnx
  simp only at q0 q1 q2 q3 hnx ⊢
  obtain⟨k,rfl⟩:=Int.eq_ofNat_of_zero_le q0
  unfold shape_From.L1
  simp only[Int.toNat_natCast,strdW_length,hw]at q3 ⊢
  by_cases hk:k<s.length
  · have hkx:k<xs.length:=by omega
    have hsub2:subN (idxV l a) A (idxV l a).length=xs:=by simpa using hsub
    rw[if_pos (by omega),at?_nat,strdW_get hk,ob_some,at?_get hk,ob_some]
    rw[List.drop_eq_getElem_cons hk]at q3
    simp only[prod]at q3
    rw[List.drop_eq_getElem_cons hk,List.drop_eq_getElem_cons hkx]
    simp only[fromS]
    have hpn:0<=prod (s.drop (k+1)):=prod_nonneg λx hx=>hs.2.1 x (List.mem_of_mem_drop hx)
    by_cases hd:s[k]=1
    · rw[if_pos hd,if_pos hd,wk_succ (by omega)]
      rw[hd,Int.one_mul]at q3
      rw[hnx (o,((k+1:Nat):Int)) ⟨by simp only[];omega,by simp only[];omega,q2,by simpa using q3⟩ (by simp;omega)]
      simp
    · rw[if_neg hd,if_neg hd,hsub2,at?_get hkx,ob_some]
      have hfk:=(fit_drop hdl.symm hfit k hk).resolve_left hd
      obtain⟨r1,r2⟩:=okIx_get (by omega) hok k (by omega)
      rw[← hfk]at r2
      have m1:(xs[k]+1)*prod (s.drop (k+1))<=s[k]*prod (s.drop (k+1)):=Int.mul_le_mul_of_nonneg_right (by omega) hpn
      rw[Int.add_mul,Int.one_mul]at m1
      have m2:0<=xs[k]*prod (s.drop (k+1)):=Int.mul_nonneg r1 hpn
      rw[wk_eq (x:=prod (s.drop (k+1))) (by omega) (by omega),wk_eq (x:=xs[k]*prod (s.drop (k+1))) (by omega) (by omega),wk_eq (by omega) (by omega),wk_succ (by omega)]
      rw[hnx (_,((k+1:Nat):Int)) ⟨by simp only[];omega,by simp only[];omega,by simp only[];omega,by simp only[Int.toNat_natCast];omega⟩ (by simp;omega)]
      simp only[Int.toNat_natCast,Int.add_assoc]
  · rw[if_neg (by omega),List.drop_of_length_le (by omega),List.drop_of_length_le (by omega)]
    simp[fromS]
theorem From_spec{fu:Nat}{s l:List Int}{a:Int}(hs:Short s)(hl:Short l)(hfs:s.length<fu)(hfl:l.length<fu)(hf:9<fu):shape_From fu s l a=some (fromV s l a):=by
  unfold shape_From shape_From.k1;(try unfold jn)
  rw[Size_spec hs hfs,ob_some,Size_spec hl hfl,ob_some,Broadcast_spec hs hl hfs hfl hf,ob_some]
  simp only[sizeV,fromV]
  by_cases gs:Good s
  · simp only[if_pos gs,if_true]
    by_cases gl:Good l
    · simp only[if_pos gl,if_true]
      by_cases he:(broadcastV s l).2=0
      · rw [if_pos he]
        have hsh:Short (broadcastV s l).1:=by
          simp only[broadcastV,if_pos gs,if_pos gl]
          have:=gs.1;have:=gl.1
          cases hb:bc s l with
          |none=>simp[Short]
          | some r=>
            obtain⟨_,_,_,_,_,h6⟩:=bc_left hb
            simp only
            split <;> simp[Short];omega
        have hfl2:(broadcastV s l).1.length<fu:=by
          simp only[broadcastV,if_pos gs,if_pos gl]
          have:=gs.1;have:=gl.1
          cases hb:bc s l with
          |none=>simp;omega
          | some r=>
            obtain⟨_,_,_,_,_,h6⟩:=bc_left hb
            simp only
            split <;> simp <;> omega
        rw[Equal_spec hsh hfl2,ob_some]
        by_cases heq:(broadcastV s l).1=l
        · have hbv:broadcastV s l=(l,0):=Prod.ext heq he
          rw[if_pos (by simpa using heq),if_pos hbv,Index_spec hl hfl,ob_some]
          simp only[indexV,if_pos gl]
          by_cases hr:0<=a/\a<prod l
          · simp only[if_pos hr,if_true]
            obtain⟨f1,_,f3⟩:=bcast_fit gs gl hbv
            have:=gl.1
            have hw:wk .i64 ((l.length:Int) - (s.length:Int))=((l.length - s.length:Nat):Int):=by rw[wk_eq (by omega) (by omega)];omega
            rw[hw,chk_pos (by rw[idxV_length];omega),strides_spec (good_short gs) hfs,ob_some,FromW_spec gs gl f1 f3 hr.1 hr.2 hf]
          · simp only[if_neg hr]
            rfl
        · rw[if_neg (by simpa using heq),if_neg (λh=>heq (by rw[h]))]
      · rw[if_neg he,if_neg (λh=>he (by rw[h]))]
    · simp only[if_neg gl]
      rw[if_neg (errS_ne l)]
  · simp only[if_neg gs]
    rw[if_neg (errS_ne s)]
end Go.Av
set_option linter.unusedVariables false
namespace Go.Av
def newV(k:Int)(d:List Int):T_Tensor×Int:=
  if k=1∨k=7∨k=9 then(if Good d then(if k=1 then(⟨k,d,List.replicate (prod d).toNat 0,[],[]⟩,0)else if k=7 then(⟨k,d,[],List.replicate (prod d).toNat 0,[]⟩,0)else(⟨k,d,[],[],List.replicate (prod d).toNat false⟩,0))else(noT,errS d))else(noT,5)
theorem New_spec{fu:Nat}{k:Int}{d:List Int}(hd:Short d)(hf:d.length<fu):tens_New fu k d=some (newV k d):=by
  unfold tens_New newV
  rw[known_spec,ob_some,Size_spec hd hf,ob_some]
  by_cases hk:k=1∨k=7∨k=9
  · rw [if_pos (by simpa using hk),if_pos hk]
    simp only[sizeV]
    by_cases hg:Good d
    · simp only[if_pos hg,if_true]
      have h1:=prod_nonneg hg.2.1
      have h2:=hg.2.2
      have h3:=hg.1
      unfold slices_Clone_int
      rw[chk_pos (by omega),ob_some,chk_pos (by omega),chk_pos (by omega),chk_pos (by omega)]
      by_cases e1:k=1
      · rw[if_pos e1,if_pos e1]
      · rw[if_neg e1,if_neg e1]
        by_cases e2:k=7
        · rw[if_pos e2,if_pos e2]
        · rw[if_neg e2,if_neg e2]
    · simp only[if_neg hg]
      rw[if_neg (errS_ne d)]
      rfl
  · rw[if_neg (by simpa using hk),if_neg hk]
    rfl
end Go.Av
set_option linter.unusedVariables false
namespace Go.Av
theorem u64_eq{x:Int}(h0:0≤x)(h1:x<18446744073709551616):wk .u64 x=x:=by
  have:wk .u64 x=x%18446744073709551616:=by simp[wk,IntKind.wrap,IntKind.signed,IntKind.bits]
  rw[this,Int.emod_eq_of_lt h0 h1]
theorem u32_eq{x:Int}(h0:0≤x)(h1:x<4294967296):wk .u32 x=x:=by
  have:wk .u32 x=x%4294967296:=by simp[wk,IntKind.wrap,IntKind.signed,IntKind.bits]
  rw[this,Int.emod_eq_of_lt h0 h1]
theorem two_mono{i j:Nat}(h:i<=j):(2:Nat) ^ i<=2 ^ j:=Nat.pow_le_pow_right (by decide) h
theorem min64{k:Nat}(hk:k<=64):min ((k:Nat):Int).toNat IntKind.u64.bits=k:=by simp[IntKind.bits];omega
theorem two_cast(k:Nat):((2 ^ k:Nat):Int)=(2:Int) ^ k:=by rw[Int.natCast_pow];rfl
theorem shr_at{a n:Nat}:(a:Int).fdiv ((2:Int) ^ n)=((a / 2 ^ n:Nat):Int):=by
  rw[← two_cast,Int.fdiv_eq_ediv_of_nonneg _ (Int.natCast_nonneg _)]
  exact(Int.natCast_ediv a (2 ^ n)).symm
theorem pow_big{a k:Nat}{b:Nat}(ha:a<2 ^ b)(hk:b<=k):a / 2 ^ k=0:=Nat.div_eq_of_lt (Nat.lt_of_lt_of_le ha (two_mono hk))
theorem shr_nat{a k:Nat}(h:a<18446744073709551616):shrk .u64 (a:Int) (k:Int)=((a / 2 ^ k:Nat):Int):=by
  unfold shrk
  rw[shr_at]
  by_cases hk:k<=64
  · rw[min64 hk]
  · rw[show min ((k:Nat):Int).toNat IntKind.u64.bits=64 by simp[IntKind.bits];omega,pow_big (b:=64) (by simpa using h) (Nat.le_refl _),pow_big (b:=64) (by simpa using h) (by omega)]
def lenOk(T:ByteArray):Bool:=(List.range 256).all fun i=>match sat? T (i:Int)with
  |some n=>decide (0<=n)&&decide (n<=8)&&decide (i<2 ^ n.toNat)&&(decide (n=0) || decide (2 ^ (n.toNat - 1)<=i))
  |none=>false
theorem lenOk_spec{T:ByteArray}(h:lenOk T=true){i:Nat}(hi:i<256): ∃ n:Nat,sat? T (i:Int)=some (n:Int)∧n≤8∧i<2 ^ n∧(n=0∨2 ^ (n - 1)≤i):=by
  have:=List.all_eq_true.1 h i (List.mem_range.2 hi)
  split at this
  · rename_i n hn
    simp only[Bool.and_eq_true,decide_eq_true_eq,Bool.or_eq_true]at this
    obtain⟨⟨⟨a,b⟩,c⟩,d⟩:=this
    refine⟨n.toNat,by rw[hn,Int.toNat_of_nonneg a],by omega,c,?_⟩
    rcases d with d|d
    · exact .inl (by omega)
    · exact .inr d
  · cases this
def Bits(x n:Nat):Prop:=x<2 ^ n/\(n=0∨2 ^ (n - 1)<=x)
theorem Bits.shift{x n k:Nat}(h:Bits (x / 2 ^ k) n)(h0:2 ^ k≤x):Bits x (k+n):=by
  have hk:0<2 ^ k:=Nat.pos_of_ne_zero (by simp)
  obtain⟨h1,h2⟩:=h
  have h3:1<=x / 2 ^ k:=(Nat.le_div_iff_mul_le hk).2 (by omega)
  refine⟨?_,.inr ?_⟩
  · rw[Nat.pow_add]
    have h:=(Nat.div_lt_iff_lt_mul hk).1 h1
    rw[Nat.mul_comm];exact h
  · rcases h2 with h2|h2
    · subst h2;simp at h1;omega
    · by_cases hn:n=0
      · subst hn;simp at h1;omega
      · rw[show k+n - 1=(n - 1)+k by omega,Nat.pow_add]
        exact(Nat.le_div_iff_mul_le hk).1 h2
theorem Len_k2{fu x c:Nat}(hx:x<65536)(hc:c≤1000): ∃ n:Nat,math_bits_Len64.k2 fu (x:Int) (c:Int)=some ((c+n:Nat):Int)∧Bits x n∧n≤16:=by
  unfold math_bits_Len64.k2
  generalize hT:(ByteArray.mk _:ByteArray)=T
  have hok:lenOk T=true:=by subst hT;kernel_rfl
  clear hT
  by_cases h:256<=x
  · rw[if_pos (by omega),show((8:Int))=((8:Nat):Int)from rfl,shr_nat (by omega)]
    have h8:x / 2 ^ 8<256:=by omega
    obtain⟨n,e1,e2,e3,e4⟩:=lenOk_spec hok h8
    have hw:wk .u8 ((x / 2 ^ 8:Nat):Int)=((x / 2 ^ 8:Nat):Int):=by
      have: ∀ z:Int,wk .u8 z=z%256:=λz=>by simp[wk,IntKind.wrap,IntKind.signed,IntKind.bits]
      rw[this,Int.emod_eq_of_lt (by omega) (by omega)]
    rw[hw,e1,ob_some]
    refine⟨8+n,?_,Bits.shift ⟨e3,e4⟩ (by omega),by omega⟩
    rw[wk_eq (x:=((c:Nat):Int)+((8:Nat):Int)) (by omega) (by omega),wk_eq (x:=((n:Nat):Int)) (by omega) (by omega),wk_eq (by omega) (by omega)]
    congr 1
    omega
  · rw[if_neg (by omega)]
    have hw:wk .u8 ((x:Nat):Int)=((x:Nat):Int):=by
      have: ∀ z:Int,wk .u8 z=z%256:=λz=>by simp[wk,IntKind.wrap,IntKind.signed,IntKind.bits]
      rw[this,Int.emod_eq_of_lt (by omega) (by omega)]
    obtain⟨n,e1,e2,e3,e4⟩:=lenOk_spec hok (i:=x) (by omega)
    refine⟨n,?_,⟨e3,e4⟩,by omega⟩
    rw[hw,e1,ob_some,wk_eq (x:=((n:Nat):Int)) (by omega) (by omega),wk_eq (by omega) (by omega)]
    congr 1
theorem Len_k1{fu x c:Nat}(hx:x<4294967296)(hc:c≤100): ∃ n:Nat,math_bits_Len64.k1 fu (x:Int) (c:Int)=some ((c+n:Nat):Int)∧Bits x n∧n≤32:=by
  unfold math_bits_Len64.k1;try unfold jn
  by_cases h:65536<=x
  · rw[if_pos (by omega),show((16:Int))=((16:Nat):Int)from rfl,shr_nat (by omega)]
    obtain⟨n,e1,e2,e3⟩:=Len_k2 (fu:=fu) (x:=x / 2 ^ 16) (c:=c+16) (by omega) (by omega)
    refine⟨16+n,?_,e2.shift (by omega),by omega⟩
    rw[wk_eq (x:=((c:Nat):Int)+((16:Nat):Int)) (by omega) (by omega),show((c:Nat):Int)+((16:Nat):Int)=((c+16:Nat):Int)by omega,e1]
    congr 1;omega
  · rw[if_neg (by omega)]
    obtain⟨n,e1,e2,e3⟩:=Len_k2 (fu:=fu) (x:=x) (c:=c) (by omega) (by omega)
    exact⟨n,e1,e2,by omega⟩
theorem Len64_spec{fu x:Nat}(hx:x<18446744073709551616): ∃ n:Nat,math_bits_Len64 fu (x:Int)=some (n:Int)∧Bits x n∧n≤64:=by
  unfold math_bits_Len64;try unfold jn
  by_cases h:4294967296<=x
  · rw[if_pos (by omega),show((32:Int))=((32:Nat):Int)from rfl,shr_nat (by omega)]
    obtain⟨n,e1,e2,e3⟩:=Len_k1 (fu:=fu) (x:=x / 2 ^ 32) (c:=32) (by omega) (by omega)
    exact⟨32+n,e1,e2.shift (by omega),by omega⟩
  · rw[if_neg (by omega),show((0:Int))=((0:Nat):Int)from rfl]
    obtain⟨n,e1,e2,e3⟩:=Len_k1 (fu:=fu) (x:=x) (c:=0) (by omega) (by omega)
    exact⟨n,by rw[e1];congr 1;omega,e2,by omega⟩
theorem sign_tot{fu:Nat}{b:Bool}: ∃ r,soft_sign fu b=some r:=by unfold soft_sign;split <;> exact⟨_,rfl⟩
theorem tiny_tot{fu:Nat}{b:Bool}: ∃ r,soft_tiny fu 0 b=some r:=by
  obtain⟨s,hs⟩:=sign_tot (fu:=fu) (b:=b)
  unfold soft_tiny soft_outwards
  rw[chk_pos rfl,chk_pos rfl,ob_some,hs,ob_some]
  exact⟨_,rfl⟩
theorem huge_tot{fu:Nat}{b:Bool}: ∃ r,soft_huge fu 0 b=some r:=by
  obtain⟨s,hs⟩:=sign_tot (fu:=fu) (b:=b)
  unfold soft_huge soft_huge.k1;try unfold jn
  rw[chk_pos rfl,hs,ob_some]
  exact⟨_,rfl⟩
theorem k3_tot{fu:Nat}{a:Bool}{b c d:Int}: ∃ r,soft_Round.k3 fu a b c d=some r:=by
  obtain⟨s,hs⟩:=sign_tot (fu:=fu) (b:=a)
  obtain⟨u,hu⟩:=huge_tot (fu:=fu) (b:=a)
  unfold soft_Round.k3
  rw[hs,hu]
  simp only[ob_some]
  repeat' split
  all_goals exact⟨_,rfl⟩
theorem k2_tot{fu:Nat}{a e f g:Bool}{b c d:Int}: ∃ r,soft_Round.k2 fu a b c d e f g=some r:=by
  unfold soft_Round.k2;try unfold jn
  repeat' split
  all_goals exact k3_tot
theorem k4_tot{fu:Nat}{a e f:Bool}{b c d:Int}: ∃ r,soft_Round.k4 fu a b c e d f=some r:=by
  unfold soft_Round.k4
  repeat' split
  all_goals exact k2_tot
theorem k1_tot{fu:Nat}{a e:Bool}{b c:Int}{n:Nat}(hn:n≤64)(hb: -300≤b)(hb2:b≤200): ∃ r,soft_Round.k1 fu a b c e (n:Int)=some r:=by
  unfold soft_Round.k1;try unfold jn
  have e1:wk .i64 ((n:Int) - 24)=(n:Int) - 24:=wk_eq (by omega) (by omega)
  have e2:wk .i64 (-149 - b)= -149 - b:=wk_eq (by omega) (by omega)
  rw[e1,e2]
  have h1:(n:Int) - 24<=imax ((n:Int) - 24) (-149 - b):=by unfold imax;split <;> omega
  have h2:imax ((n:Int) - 24) (-149 - b)<=151:=by unfold imax;split <;> omega
  generalize imax ((n:Int) - 24) (-149 - b)=m at h1 h2
  split
  · rw[chk_pos (by rw[wk_eq (by omega) (by omega)];omega)]
    exact k2_tot
  · split
    · exact k2_tot
    · rw[chk_pos (by omega),chk_pos (by rw[wk_eq (by omega) (by omega)];omega)]
      repeat' split
      all_goals exact k4_tot
theorem Round_tot{fu:Nat}{a e:Bool}{b c:Int}(h0:0≤c)(h1:c<18446744073709551616): ∃ r,soft_Round fu 0 a b c e=some r:=by
  obtain⟨k,rfl⟩:=Int.eq_ofNat_of_zero_le h0
  obtain⟨n,hn,_,hn2⟩:=Len64_spec (fu:=fu) (x:=k) (by omega)
  obtain⟨s,hs⟩:=sign_tot (fu:=fu) (b:=a)
  obtain⟨u,hu⟩:=huge_tot (fu:=fu) (b:=a)
  obtain⟨v,hv⟩:=tiny_tot (fu:=fu) (b:=a)
  unfold soft_Round;try unfold jn
  rw[chk_pos rfl,hn,ob_some,hs,hu,hv]
  simp only[ob_some]
  split
  · split <;> exact⟨_,rfl⟩
  · split
    · exact⟨_,rfl⟩
    · split
      · exact⟨_,rfl⟩
      · exact k1_tot hn2 (by omega) (by omega)
theorem wk_u64(x:Int):0≤wk .u64 x∧wk .u64 x<18446744073709551616:=by
  have:wk .u64 x=x%18446744073709551616:=by simp[wk,IntKind.wrap,IntKind.signed,IntKind.bits]
  rw[this];omega
theorem open_tot{fu:Nat}{x:Int}: ∃ r,soft_open fu x=some r∧ -150≤r.fexp∧r.fexp≤200:=by
  have hb:0≤band .u32 (shrk .u32 x 23) 255∧band .u32 (shrk .u32 x 23) 255≤255:=by
    unfold band
    rw[show IntKind.u32.bits=32 from rfl,BitVec.toNat_and]
    have h:(BitVec.ofInt 32 (shrk .u32 x 23)).toNat &&& (BitVec.ofInt 32 255).toNat<=255:=Nat.le_trans Nat.and_le_right (by decide)
    have hw:=u32_eq (x:=(((BitVec.ofInt 32 (shrk .u32 x 23)).toNat &&& (BitVec.ofInt 32 255).toNat:Nat):Int)) (by omega) (by omega)
    unfold wk at hw
    rw[hw]
    omega
  unfold soft_open
  rw[wk_eq (x:=band .u32 (shrk .u32 x 23) 255) (by omega) (by omega)]
  generalize band .u32 (shrk .u32 x 23) 255=q at hb
  split
  · exact⟨_,rfl,by show(-150:Int)<=0;omega,by show(0:Int)<=200;omega⟩
  · split
    · exact⟨_,rfl,by show(-150:Int)<= -149;omega,by show(-149:Int)<=200;omega⟩
    · refine⟨_,rfl,?_,?_⟩
      · show -150≤wk .i64 (q - 150)
        rw[wk_eq (by omega) (by omega)];omega
      · show wk .i64 (q - 150)≤200
        rw[wk_eq (by omega) (by omega)];omega
theorem Mul_tot{fu:Nat}{x y:Int}: ∃ r,soft_Mul fu x y=some r:=by
  obtain⟨a,ha,_,_⟩:=open_tot (fu:=fu) (x:=x)
  obtain⟨b,hb,_,_⟩:=open_tot (fu:=fu) (x:=y)
  obtain⟨s,hs⟩:=sign_tot (fu:=fu) (b:= !(a.fneg==b.fneg))
  obtain⟨r,hr⟩:=Round_tot (fu:=fu) (a:= !(a.fneg==b.fneg)) (e:=false) (b:=wk .i64 (a.fexp+b.fexp)) (wk_u64 (a.fsig*b.fsig)).1 (wk_u64 _).2
  unfold soft_Mul soft_MulBy soft_MulBy.k1;try unfold jn
  rw[chk_pos rfl,ha,ob_some,hb,ob_some,hs,hr]
  simp only[ob_some]
  repeat' split
  all_goals exact⟨_,rfl⟩
theorem nought_tot{fu:Nat}: ∃ r,soft_nought fu 0=some r:=by
  obtain⟨s,hs⟩:=sign_tot (fu:=fu) (b:=decide ((0:Int)=2))
  unfold soft_nought
  rw[chk_pos rfl,hs,ob_some]
  exact⟨_,rfl⟩
theorem a3_tot{fu:Nat}{a b c:Bool}{x y z:Int}: ∃ r,soft_AddBy.k3 fu a b x y z c=some r:=by
  obtain⟨s,hs⟩:=nought_tot (fu:=fu)
  obtain⟨r1,h1⟩:=Round_tot (fu:=fu) (a:=a) (e:=c) (b:=x) (wk_u64 (y+z)).1 (wk_u64 _).2
  obtain⟨r2,h2⟩:=Round_tot (fu:=fu) (a:=a) (e:=true) (b:=x) (wk_u64 (wk .u64 (y - z) - 1)).1 (wk_u64 _).2
  obtain⟨r3,h3⟩:=Round_tot (fu:=fu) (a:=a) (e:=false) (b:=x) (wk_u64 (y - z)).1 (wk_u64 _).2
  obtain⟨r4,h4⟩:=Round_tot (fu:=fu) (a:=b) (e:=false) (b:=x) (wk_u64 (z - y)).1 (wk_u64 _).2
  unfold soft_AddBy.k3
  rw[hs,h1,h2,h3,h4]
  simp only[ob_some]
  repeat' split
  all_goals exact⟨_,rfl⟩
theorem a2_tot{fu:Nat}{a b:Bool}{x y z w:Int}(h:z≤x)(h1: -1000≤z)(h2:x≤1000): ∃ r,soft_AddBy.k2 fu a x y b z w=some r:=by
  unfold soft_AddBy.k2;try unfold jn
  rw[wk_eq (x:=x - z) (by omega) (by omega)]
  split
  · rw[chk_pos (by omega)];exact a3_tot
  · rw[chk_pos (by rw[wk_eq (by omega) (by omega)];omega)];exact a3_tot
theorem a1_tot{fu:Nat}{p q:T_soft_number}(h1: -150≤p.fexp)(h2:p.fexp≤200)(h3: -150≤q.fexp)(h4:q.fexp≤200): ∃ r,soft_AddBy.k1 fu p q=some r:=by
  unfold soft_AddBy.k1;try unfold jn
  split
  · exact a2_tot (by omega) (by omega) (by omega)
  · exact a2_tot (by omega) (by omega) (by omega)
theorem Add_tot{fu:Nat}{x y:Int}: ∃ r,soft_Add fu x y=some r:=by
  obtain⟨a,ha,a1,a2⟩:=open_tot (fu:=fu) (x:=x)
  obtain⟨b,hb,b1,b2⟩:=open_tot (fu:=fu) (x:=y)
  obtain⟨s,hs⟩:=nought_tot (fu:=fu)
  obtain⟨r,hr⟩:=a1_tot (fu:=fu) a1 a2 b1 b2
  unfold soft_Add soft_AddBy;try unfold jn
  rw[chk_pos rfl,ha,ob_some,hb,ob_some,hs,hr]
  simp only[ob_some]
  repeat' split
  all_goals exact⟨_,rfl⟩
theorem Mul_fu{fu:Nat}{x y:Int}:soft_Mul fu x y=soft_Mul 0 x y:=rfl
theorem Add_fu{fu:Nat}{x y:Int}:soft_Add fu x y=soft_Add 0 x y:=rfl
def mulV(x y:Int):Int:=(soft_Mul 0 x y).getD 0
def addV(x y:Int):Int:=(soft_Add 0 x y).getD 0
theorem Mul_spec{fu:Nat}{x y:Int}:soft_Mul fu x y=some (mulV x y):=by
  rw[Mul_fu];unfold mulV
  obtain⟨r,hr⟩:=Mul_tot (fu:=0) (x:=x) (y:=y)
  rw[hr];rfl
theorem Add_spec{fu:Nat}{x y:Int}:soft_Add fu x y=some (addV x y):=by
  rw[Add_fu];unfold addV
  obtain⟨r,hr⟩:=Add_tot (fu:=0) (x:=x) (y:=y)
  rw[hr];rfl
end Go.Av
set_option linter.unusedVariables false
set_option linter.unusedSimpArgs false
namespace Go.Av
def outV(k:Int)(d:List Int):T_Val:=⟨k,d,false,⟨0,[],[],[],[]⟩⟩
def OPS(op:Int):Prop:=op=23∨op=24∨op=25∨op=28∨op=30∨op=34∨op=35∨op=37
def okT(op t:Int):Prop:=if op=23∨op=24∨op=25 then t=9 else if op=37 then t=1∨t=7∨t=9 else t=1∨t=7
def outT(op t:Int):Int:=if op=23∨op=24∨op=25∨op=37 then 9 else t
instance (op t:Int):Decidable (okT op t):=by unfold okT;infer_instance
def srt(op:Int):ByteArray:=if op=23∨op=24∨op=25 then⟨#[98]⟩else if op=37 then⟨#[97,61]⟩else⟨#[110,61]⟩
theorem sorts_spec{fu:Nat}{op:Int}(h:OPS op):infer_sorts fu op=some (srt op):=by
  rcases h with rfl|rfl|rfl|rfl|rfl|rfl|rfl|rfl <;> rfl
theorem arity_spec{fu:Nat}{op:Int}(h:OPS op):ops_Arity fu op=some (2,2,1,1):=by
  rcases h with rfl|rfl|rfl|rfl|rfl|rfl|rfl|rfl <;> rfl
section
variable {fu:Nat} {op:Int} {s:T_Setting} {u v:T_Val}
theorem val2_0:infer_ask_val fu ⟨op,s,[u,v],1⟩ 0=some u:=rfl
theorem val2_1:infer_ask_val fu ⟨op,s,[u,v],1⟩ 1=some v:=rfl
theorem has2_0:infer_ask_has fu ⟨op,s,[u,v],1⟩ 0=some (!(decide (u.fType=0))):=rfl
theorem has2_1:infer_ask_has fu ⟨op,s,[u,v],1⟩ 1=some (!(decide (v.fType=0))):=rfl
theorem dims2_0:infer_ask_dims fu ⟨op,s,[u,v],1⟩ 0=some u.fDims:=rfl
theorem dims2_1:infer_ask_dims fu ⟨op,s,[u,v],1⟩ 1=some v.fDims:=rfl
theorem two_0:(0:Int)<(([u,v]:List T_Val).length:Int):=by simp only[List.length_cons,List.length_nil];decide
theorem two_1:(1:Int)<(([u,v]:List T_Val).length:Int):=by simp only[List.length_cons,List.length_nil];decide
theorem two_2: ¬ (2:Int)<(([u,v]:List T_Val).length:Int):=by simp only[List.length_cons,List.length_nil];decide
theorem w64_1:wk .i64 ((0:Int)+1)=1:=by decide
theorem w64_2:wk .i64 ((1:Int)+1)=2:=by decide
theorem complete2(h:OPS op)(hf:4<fu):infer_ask_complete fu ⟨op,s,[u,v],1⟩=some (decide (u.fType≠0∧v.fType≠0)):=by
  obtain⟨q,rfl⟩: ∃ q,fu=q+3:=⟨fu - 3,by omega⟩
  unfold infer_ask_complete;try unfold jn
  have h61: ¬ op=61:=by rcases h with rfl|rfl|rfl|rfl|rfl|rfl|rfl|rfl <;> decide
  rw[arity_spec h,ob_some]
  simp only[List.length_cons,List.length_nil]
  rw[if_neg (by decide),if_neg h61,if_neg (by decide),if_neg (by decide),if_neg (by decide),if_neg (by decide)]
  unfold infer_ask_complete.k1 infer_ask_complete.W1
  rw[cloop_succ,infer_ask_complete.L1,if_pos (by decide),has2_0,ob_some,w64_1]
  by_cases h0:u.fType=0
  · simp[h0]
  · rw[if_pos (by simpa using h0),cloop_succ,infer_ask_complete.L1,if_pos (by decide),has2_1,ob_some,w64_2]
    by_cases h1:v.fType=0
    · simp[h0,h1]
    · rw[if_pos (by simpa using h1),cloop_succ,infer_ask_complete.L1,if_neg (by decide)]
      simp[h0,h1]
def wdt(t:Int):Int:=if t=1 then 4 else if t=7 then 8 else if t=9 then 1 else 0
theorem width_spec{t:Int}:tens_Width fu t=some (wdt t):=by
  unfold tens_Width wdt
  by_cases h1:t=1
  · simp[h1]
  · by_cases h2:t=7
    · simp[h2]
    · by_cases h3:t=9 <;> simp[h1,h2,h3]
theorem wdt_zero{t:Int}:wdt t=0 ↔ ¬ (t=1∨t=7∨t=9):=by
  unfold wdt
  by_cases h1:t=1
  · simp[h1]
  · by_cases h2:t=7
    · simp[h2]
    · by_cases h3:t=9 <;> simp[h1,h2,h3]
theorem fits2_1:infer_ask_fits fu ⟨op,s,[u,v],1⟩ 1 61=some (decide (v.fType=u.fType)):=rfl
theorem fits2_b{i:Int}{w:T_Val}(hv:infer_ask_val fu ⟨op,s,[u,v],1⟩ i=some w):infer_ask_fits fu ⟨op,s,[u,v],1⟩ i 98=some (decide (w.fType=9)):=by
  unfold infer_ask_fits;rw[hv];rfl
theorem fits2_n:infer_ask_fits fu ⟨op,s,[u,v],1⟩ 0 110=some (decide (u.fType=1∨u.fType=7)):=by
  unfold infer_ask_fits infer_ask_fits.k1;try unfold jn
  rw[val2_0,ob_some,if_pos rfl]
  by_cases h1:u.fType=1 <;> simp[h1]
theorem fits2_a:infer_ask_fits fu ⟨op,s,[u,v],1⟩ 0 97=some (decide (0<wdt u.fType)):=by
  unfold infer_ask_fits;try unfold jn
  rw[val2_0,ob_some,if_neg (by decide),if_neg (by decide),if_neg (by decide),if_neg (by decide),if_neg (by decide),if_neg (by decide),width_spec,ob_some]
def lt0(op:Int):Int:=if op=23∨op=24∨op=25 then 98 else if op=37 then 97 else 110
def lt1(op:Int):Int:=if op=23∨op=24∨op=25 then 98 else 61
theorem srt_0(h:OPS op):sat? (srt op) (imin 0 (wk .i64 (((srt op).size:Int) - 1)))=some (lt0 op):=by
  rcases h with rfl|rfl|rfl|rfl|rfl|rfl|rfl|rfl <;> decide
theorem srt_1(h:OPS op):sat? (srt op) (imin 1 (wk .i64 (((srt op).size:Int) - 1)))=some (lt1 op):=by
  rcases h with rfl|rfl|rfl|rfl|rfl|rfl|rfl|rfl <;> decide
theorem wdt_pos{t:Int}:0<wdt t ↔ t=1∨t=7∨t=9:=by
  unfold wdt
  by_cases h1:t=1
  · simp[h1]
  · by_cases h2:t=7
    · simp[h2]
    · by_cases h3:t=9 <;> simp[h1,h2,h3]
theorem fit_0(h:OPS op)(hk:u.fType=1∨u.fType=7∨u.fType=9):infer_ask_fits fu ⟨op,s,[u,v],1⟩ 0 (lt0 op)=some (decide (okT op u.fType)):=by
  rcases h with rfl|rfl|rfl|rfl|rfl|rfl|rfl|rfl
  · exact fits2_b val2_0
  · exact fits2_b val2_0
  · exact fits2_b val2_0
  · exact fits2_n
  · exact fits2_n
  · exact fits2_n
  · exact fits2_n
  · refine fits2_a.trans ?_
    congr 1
    exact decide_eq_decide.2 wdt_pos
theorem fit_1(h:OPS op)(hk:okT op u.fType):infer_ask_fits fu ⟨op,s,[u,v],1⟩ 1 (lt1 op)=some (decide (v.fType=u.fType)):=by
  rcases h with rfl|rfl|rfl|rfl|rfl|rfl|rfl|rfl
  · have:u.fType=9:=hk
    rw[this];exact fits2_b val2_1
  · have:u.fType=9:=hk
    rw[this];exact fits2_b val2_1
  · have:u.fType=9:=hk
    rw[this];exact fits2_b val2_1
  all_goals exact fits2_1
theorem okT_known(h:okT op u.fType):u.fType=1∨u.fType=7∨u.fType=9:=by
  unfold okT at h
  split at h
  · exact .inr (.inr h)
  · split at h
    · exact h
    · exact h.elim .inl λh=> .inr (.inl h)
theorem typed2(h:OPS op)(h0:u.fType≠0)(h1:v.fType≠0)(hf:4<fu):infer_ask_typed fu ⟨op,s,[u,v],1⟩=some (decide (okT op u.fType∧v.fType=u.fType)):=by
  obtain⟨q,rfl⟩: ∃ q,fu=q+3:=⟨fu - 3,by omega⟩
  have h52: ¬ op=52:=by rcases h with rfl|rfl|rfl|rfl|rfl|rfl|rfl|rfl <;> decide
  unfold infer_ask_typed;try unfold jn
  show(infer_sorts _ op).bind _=_
  rw[sorts_spec h,ob_some]
  unfold infer_ask_typed.W1
  rw[cloop_succ,infer_ask_typed.L1,if_pos two_0,has2_0,ob_some,if_pos (by simpa using h0),val2_0,ob_some,width_spec,ob_some]
  by_cases hk:u.fType=1∨u.fType=7∨u.fType=9
  · rw [if_neg (fun hh=>wdt_zero.1 hh hk),srt_0 h,ob_some,fit_0 h hk,ob_some,w64_1]
    by_cases ho:okT op u.fType
    · rw [if_pos (by simpa using ho),cloop_succ,infer_ask_typed.L1,if_pos two_1,has2_1,ob_some,if_pos (by simpa using h1),val2_1,ob_some,width_spec,ob_some]
      by_cases hv:v.fType=1∨v.fType=7∨v.fType=9
      · rw[if_neg (fun hh=>wdt_zero.1 hh hv),srt_1 h,ob_some,fit_1 h ho,ob_some,w64_2]
        by_cases he:v.fType=u.fType
        · rw[if_pos (by simpa using he),cloop_succ,infer_ask_typed.L1,if_neg two_2,infer_ask_typed.k1,if_neg h52]
          simp[ho,he]
        · rw[if_neg (by simpa using he)]
          simp[he]
      · rw[if_pos (wdt_zero.2 hv)]
        have: ¬ v.fType=u.fType:=λhe=>hv (he ▸ hk)
        simp[this]
    · rw[if_neg (by simpa using ho)]
      simp[ho]
  · rw[if_pos (wdt_zero.2 hk)]
    have: ¬ okT op u.fType:=λho=>hk (okT_known ho)
    simp[this]
theorem attr2(h:OPS op):infer_ask_attributes fu ⟨op,s,[u,v],1⟩=some true:=by
  rcases h with rfl|rfl|rfl|rfl|rfl|rfl|rfl|rfl <;> rfl
theorem lists2(h:OPS op):infer_ask_lists fu ⟨op,s,[u,v],1⟩=some []:=by
  rcases h with rfl|rfl|rfl|rfl|rfl|rfl|rfl|rfl <;> rfl
theorem told2(h:OPS op)(hf:4<fu):infer_ask_told fu ⟨op,s,[u,v],1⟩=some 0:=by
  obtain⟨q,rfl⟩: ∃ q,fu=q+1:=⟨fu - 1,by omega⟩
  unfold infer_ask_told
  rw[lists2 h,ob_some]
  have h49: ¬ op=49:=by rcases h with rfl|rfl|rfl|rfl|rfl|rfl|rfl|rfl <;> decide
  have hc: ∀ p:T_Val->Option Bool,slices_ContainsFunc_api_Val_api_Val (q+1) [] p=some false:=λp=>rfl
  rw[hc,ob_some,if_neg (by decide),hc,ob_some,if_neg (by decide)]
  show(if op=49 then none else _)=_
  rw[if_neg h49,hc,ob_some,if_neg (by decide)]
theorem wrong2(h:OPS op)(h0:u.fType≠0)(h1:v.fType≠0)(gu:Good u.fDims)(gv:Good v.fDims)(hf:9<fu):infer_ask_wrong fu ⟨op,s,[u,v],1⟩=some (if okT op u.fType∧v.fType=u.fType then 0 else 5):=by
  have hu:shape_Size fu u.fDims=some (sizeV u.fDims):=Size_spec (by have:=gu.1;unfold Short;omega) (by have:=gu.1;omega)
  have hv:shape_Size fu v.fDims=some (sizeV v.fDims):=Size_spec (by have:=gv.1;unfold Short;omega) (by have:=gv.1;omega)
  unfold infer_ask_wrong infer_ask_wrong.W1;try unfold jn
  obtain⟨q,hq⟩: ∃ q,fu=q+3:=⟨fu - 3,by omega⟩
  have key: ∀ n,cloop (fun next s_1=>infer_ask_wrong.L1 fu ⟨op,s,[u,v],1⟩ next s_1) (n+3) 0=infer_ask_wrong.k1 fu ⟨op,s,[u,v],1⟩:=by
    intro n
    have hu2:(sizeV u.fDims).2=0:=by simp only[sizeV,if_pos gu]
    have hv2:(sizeV v.fDims).2=0:=by simp only[sizeV,if_pos gv]
    rw[cloop_succ,infer_ask_wrong.L1,if_pos two_0,show at? [u,v] (0:Int)=some u from rfl,ob_some,hu,ob_some,has2_0,ob_some,if_pos (by simpa using h0),if_pos hu2,w64_1]
    rw[cloop_succ,infer_ask_wrong.L1,if_pos two_1,show at? [u,v] (1:Int)=some v from rfl,ob_some,hv,ob_some,has2_1,ob_some,if_pos (by simpa using h1),if_pos hv2,w64_2]
    rw[cloop_succ,infer_ask_wrong.L1,if_neg two_2]
  have:cloop (fun next s_1=>infer_ask_wrong.L1 fu ⟨op,s,[u,v],1⟩ next s_1) fu 0=infer_ask_wrong.k1 fu ⟨op,s,[u,v],1⟩:=by
    have:=key q
    rwa[← hq]at this
  rw[this]
  unfold infer_ask_wrong.k1
  rw[typed2 h h0 h1 (by omega),ob_some]
  by_cases ht:okT op u.fType/\v.fType=u.fType
  · rw[if_pos (by simpa using ht),attr2 h,ob_some,if_pos rfl,told2 h (by omega),ob_some,if_pos ht]
  · rw[if_neg (by simpa using ht),if_neg ht]
theorem shapes2(h:OPS op)(gu:Good u.fDims)(gv:Good v.fDims)(hf:9<fu):infer_ask_shapes fu ⟨op,s,[u,v],1⟩=some (if(broadcastV u.fDims v.fDims).2=0 then([(broadcastV u.fDims v.fDims).1],0)else([],(broadcastV u.fDims v.fDims).2)):=by
  have e0:infer_ask_shapes fu ⟨op,s,[u,v],1⟩=infer_ask_shapes.k1 fu ⟨op,s,[u,v],1⟩:=by
    rcases h with rfl|rfl|rfl|rfl|rfl|rfl|rfl|rfl <;> rfl
  rw[e0]
  unfold infer_ask_shapes.k1 infer_ask_together;try unfold jn
  rw[dims2_0,ob_some]
  unfold infer_ask_together.W1
  have hb:shape_Broadcast fu u.fDims v.fDims=some (broadcastV u.fDims v.fDims):=Broadcast_spec (by have:=gu.1;unfold Short;omega) (by have:=gv.1;unfold Short;omega) (by have:=gu.1;omega) (by have:=gv.1;omega) hf
  obtain⟨q,hq⟩: ∃ q,fu=q+2:=⟨fu - 2,by omega⟩
  have key: ∀ n,cloop (fun next s_1=>infer_ask_together.L1 fu ⟨op,s,[u,v],1⟩ (fun x7 x8=>next (x7,x8)) s_1.1 s_1.2) (n+2) (u.fDims,1)=some (if(broadcastV u.fDims v.fDims).2=0 then([(broadcastV u.fDims v.fDims).1],0)else([],(broadcastV u.fDims v.fDims).2)):=by
    intro n
    rw[cloop_succ]
    show infer_ask_together.L1 fu _ _ u.fDims 1=_
    rw[infer_ask_together.L1,if_pos two_1,dims2_1,ob_some,hb,ob_some,w64_2]
    by_cases h0:(broadcastV u.fDims v.fDims).2=0
    · rw[if_pos h0,if_pos h0,cloop_succ]
      show infer_ask_together.L1 fu _ _ _ 2=_
      rw[infer_ask_together.L1,if_neg two_2]
      rfl
    · rw[if_neg h0,if_neg h0]
  have:=key q
  rw[← hq]at this
  rw[this,ob_some]
theorem out2(h:OPS op):infer_ask_out fu ⟨op,s,[u,v],1⟩=some (outT op u.fType):=by
  rcases h with rfl|rfl|rfl|rfl|rfl|rfl|rfl|rfl <;> rfl
theorem good_bc{a b:List Int}(h:(broadcastV a b).2=0):Good (broadcastV a b).1:=by
  unfold broadcastV at h ⊢
  by_cases h1:Good a
  · by_cases h2:Good b
    · simp only[if_pos h1,if_pos h2]at h ⊢
      cases hl:bc a b with
      |none=>rw[hl]at h;exact absurd h (by decide)
      | some l=>
        rw[hl]at h
        simp only at h ⊢
        by_cases h3:Good l
        · rw[if_pos h3];exact h3
        · rw[if_neg h3]at h;exact absurd h (errS_ne _)
    · simp only[if_pos h1,if_neg h2]at h;exact absurd h (errS_ne _)
  · simp only[if_neg h1]at h;exact absurd h (errS_ne _)
def Acc(op:Int)(u v:T_Val):Prop:=u.fType≠0/\v.fType≠0/\okT op u.fType/\v.fType=u.fType/\(broadcastV u.fDims v.fDims).2=0
theorem Node2(h:OPS op)(gu:Good u.fDims)(gv:Good v.fDims)(hf:9<fu):
    (Acc op u v/\infer_Node fu op s [u,v] 1=some ([outV (outT op u.fType) (broadcastV u.fDims v.fDims).1],0))∨(¬ Acc op u v/\ ∃ l e,e≠0/\infer_Node fu op s [u,v] 1=some (l,e)):=by
  unfold infer_Node
  rw[complete2 h (by omega),ob_some]
  by_cases hc:u.fType≠0/\v.fType≠0
  · obtain⟨h0,h1⟩:=hc
    rw[if_pos (by simp[h0,h1]),wrong2 h h0 h1 gu gv hf,ob_some]
    by_cases ht:okT op u.fType/\v.fType=u.fType
    · rw [if_pos (by rw[if_pos ht]),shapes2 h gu gv hf,ob_some]
      by_cases hb:(broadcastV u.fDims v.fDims).2=0
      · refine .inl ⟨⟨h0,h1,ht.1,ht.2,hb⟩,?_⟩
        rw[if_pos hb,if_pos rfl]
        have gd:=good_bc hb
        unfold infer_Node.W1
        obtain⟨q,hq⟩: ∃ q,fu=q+2:=⟨fu - 2,by omega⟩
        have hs:shape_Size fu (broadcastV u.fDims v.fDims).1=some (sizeV (broadcastV u.fDims v.fDims).1):=Size_spec (by have:=gd.1;unfold Short;omega) (by have:=gd.1;omega)
        have hcl:slices_Clone_int fu (broadcastV u.fDims v.fDims).1=some (broadcastV u.fDims v.fDims).1:=Clone_spec (good_short gd)
        have key: ∀ n,cloop (fun next s_1=>infer_Node.L1 fu op s [u,v] 1 ([(broadcastV u.fDims v.fDims).1],0) (fun x12 x13=>next (x12,x13)) s_1.1 s_1.2) (n+2) ([],0)=some ([outV (outT op u.fType) (broadcastV u.fDims v.fDims).1],0):=by
          intro n
          have hs2:(sizeV (broadcastV u.fDims v.fDims).1).2=0:=by simp only[sizeV,if_pos gd]
          rw[cloop_succ]
          show infer_Node.L1 fu op s [u,v] 1 _ _ [] 0=_
          rw[infer_Node.L1,if_pos (by simp),show at? ([(broadcastV u.fDims v.fDims).1],(0:Int)).1 (0:Int)=some (broadcastV u.fDims v.fDims).1 from rfl,ob_some,hs,ob_some,if_pos hs2,out2 h,ob_some,hcl,ob_some,chk_pos (by decide),w64_1,cloop_succ]
          show infer_Node.L1 fu op s [u,v] 1 _ _ _ 1=_
          rw[infer_Node.L1,if_neg (by simp)]
          rfl
        have:=key q
        rwa[← hq]at this
      · refine .inr ⟨fun hh=>hb hh.2.2.2.2,[],(broadcastV u.fDims v.fDims).2,hb,?_⟩
        rw[if_neg hb,if_neg hb]
    · refine .inr ⟨fun hh=>ht ⟨hh.2.2.1,hh.2.2.2.1⟩,[],5,by decide,?_⟩
      rw[if_neg ht,if_neg (by decide)]
  · refine .inr ⟨fun hh=>hc ⟨hh.1,hh.2.1⟩,[],1,by decide,?_⟩
    rw[if_neg (by simpa using hc)]
end
end Go.Av
set_option linter.unusedVariables false
set_option linter.unusedSimpArgs false
namespace Go.Av
theorem fromS_lt: ∀ {s l xs:List Int},s.length=l.length→l.length=xs.length→dimsFit s l→okIx l xs=true→0≤fromS s xs∧fromS s xs<prod s
  |[],[],[],_,_,_,_=>by simp[fromS,prod]
  | d ::s,x::l,y::xs,h1,h2,hf,ho=>by
    simp only[okIx,Bool.and_eq_true,decide_eq_true_eq]at ho
    obtain⟨f1,f2⟩:=fromS_lt (s:=s) (l:=l) (xs:=xs) (by simpa using h1) (by simpa using h2) hf.2 ho.2
    simp only[fromS,prod]
    by_cases hd:d=1
    · rw[if_pos hd,hd,Int.one_mul];omega
    · rw[if_neg hd]
      have:=hf.1.resolve_left hd
      have m1:(y+1)*prod s<=d*prod s:=Int.mul_le_mul_of_nonneg_right (by omega) (by omega)
      rw[Int.add_mul,Int.one_mul]at m1
      have m2:0<=y*prod s:=Int.mul_nonneg ho.1.1 (by omega)
      omega
theorem cloop_st{τ β:Type}{body:(τ→Option β)→τ→Option β}(N:Nat)(st:Nat→τ)(r:Option β)(h: ∀ k,k<N→ ∀ next,next (st (k+1))=r→body next (st k)=r)
    (he: ∀ next,body next (st N)=r) {n:Nat} (hn:N<n):cloop body n (st 0)=r:=by
  have : ∀ m k,k≤N→N - k<m→cloop body m (st k)=r:=by
    intro m
    induction m with
    |zero=>intro k _ h;omega
    | succ m ih=>
      intro k hk hm
      rw[cloop_succ]
      by_cases hlt:k<N
      · exact h k hlt _ (ih (k+1) (by omega) (by omega))
      · obtain rfl:k=N:=by omega
        exact he _
  exact this n 0 (by omega) (by omega)
def fillL{α:Type}(n:Nat)(g:Nat->α)(z:α)(k:Nat):List α:=(List.range k).map g++List.replicate (n - k) z
theorem fillL_full{α:Type}{n:Nat}{g:Nat->α}{z:α}:fillL n g z n=(List.range n).map g:=by simp[fillL]
theorem fillL_len{α:Type}{n k:Nat}{g:Nat->α}{z:α}(h:k<=n):(fillL n g z k).length=n:=by simp[fillL];omega
theorem fillL_set{α:Type}{n k:Nat}{g:Nat→α}{z:α}(h:k<n):(fillL n g z k).set k (g k)=fillL n g z (k+1):=by
  unfold fillL
  rw[List.set_append_right _ _ (by simp)]
  obtain⟨m,hm⟩: ∃ m,n - k=m+1:=⟨n - k - 1,by omega⟩
  have hm2:n - (k+1)=m:=by omega
  rw[hm,hm2,List.replicate_succ,List.range_succ,List.map_append]
  simp
def pl1(s d:List Int)(k:Nat):Nat:=(fromV s d (k:Int)).1.toNat
theorem pl1_spec{s d:List Int}{k:Nat}(gs:Good s)(gd:Good d)(hb:broadcastV s d=(d,0))(hk:(k:Int)<prod d):fromV s d (k:Int)=(((pl1 s d k:Nat):Int),0)∧((pl1 s d k:Nat):Int)<prod s:=by
  obtain⟨h1,h2,h3⟩:=bcast_fit gs gd hb
  have hp: ∀ x ∈ d,1<=x:=pos_of_good gd (by omega)
  have e:fromV s d (k:Int)=(fromS s ((idxV d k).drop (d.length - s.length)),0):=by
    unfold fromV
    rw[if_pos gs,if_pos gd,if_pos hb,if_pos ⟨by omega,hk⟩]
  have hok:=okIx_drop (d.length - s.length) (okIx_idx hp (by omega:(0:Int)<=(k:Int)) hk)
  obtain⟨f1,f2⟩:=fromS_lt (s:=s) (by simp;omega) (by simp[idxV_length]) h3 hok
  unfold pl1
  rw[e]
  simp only
  rw[Int.toNat_of_nonneg f1]
  exact⟨rfl,f2⟩
structure Two (fu:Nat) (a b:T_Tensor) (d:List Int):Prop where
  ga:Good a.fDims
  gb:Good b.fDims
  gd:Good d
  ba:broadcastV a.fDims d=(d,0)
  bb:broadcastV b.fDims d=(d,0)
  la:LensOK a
  lb:LensOK b
  hf:4200<fu
section
variable {fu:Nat} {a b:T_Tensor} {d:List Int} {k:Nat} {op t n:Int} {s:T_Setting} {F I:List Int} {B:List Bool}
theorem place_0(h:Two fu a b d)(hk:(k:Int)<prod d):ewise_work_place fu ⟨op,s,[a,b],⟨t,d,F,I,B⟩,n⟩ 0 (k:Int)=some ((pl1 a.fDims d k:Nat):Int):=by
  have h1:=h.ga.1;have h2:=h.gd.1;have h3:=h.hf
  unfold ewise_work_place
  dsimp only
  rw[show at? [a,b] (0:Int)=some a from rfl,ob_some,From_spec (by unfold Short;omega) (by unfold Short;omega) (by omega) (by omega) (by omega),ob_some,(pl1_spec h.ga h.gd h.ba hk).1]
theorem place_1(h:Two fu a b d)(hk:(k:Int)<prod d):ewise_work_place fu ⟨op,s,[a,b],⟨t,d,F,I,B⟩,n⟩ (wk .i64 ((([a,b]:List T_Tensor).length:Int) - 1)) (k:Int)=some ((pl1 b.fDims d k:Nat):Int):=by
  have h1:=h.gb.1;have h2:=h.gd.1;have h3:=h.hf
  unfold ewise_work_place
  dsimp only
  rw[show at? [a,b] (wk .i64 ((([a,b]:List T_Tensor).length:Int) - 1))=some b from rfl,ob_some,From_spec (by unfold Short;omega) (by unfold Short;omega) (by omega) (by omega) (by omega),ob_some,(pl1_spec h.gb h.gd h.bb hk).1]
theorem in_0:at? [a,b] (0:Int)=some a:=rfl
theorem in_1:at? [a,b] (wk .i64 ((([a,b]:List T_Tensor).length:Int) - 1))=some b:=rfl
theorem rd{α:Type}{l:List α}{j:Nat}{z:α}(h:j<l.length):at? l (j:Int)=some (l.getD j z):=by
  rw[at?_nat,List.getD_eq_getElem?_getD,List.getElem?_eq_getElem h];rfl
theorem rdF_a(h:Two fu a b d)(ht:a.fType=1)(hk:(k:Int)<prod d):at? a.fF ((pl1 a.fDims d k:Nat):Int)=some (a.fF.getD (pl1 a.fDims d k) 0):=
  rd (by have:=(pl1_spec h.ga h.gd h.ba hk).2;have:=h.la.1;rw[if_pos ht]at this;omega)
theorem rdF_b(h:Two fu a b d)(ht:b.fType=1)(hk:(k:Int)<prod d):at? b.fF ((pl1 b.fDims d k:Nat):Int)=some (b.fF.getD (pl1 b.fDims d k) 0):=
  rd (by have:=(pl1_spec h.gb h.gd h.bb hk).2;have:=h.lb.1;rw[if_pos ht]at this;omega)
theorem rdI_a(h:Two fu a b d)(ht:a.fType=7)(hk:(k:Int)<prod d):at? a.fI ((pl1 a.fDims d k:Nat):Int)=some (a.fI.getD (pl1 a.fDims d k) 0):=
  rd (by have:=(pl1_spec h.ga h.gd h.ba hk).2;have:=h.la.2.1;rw[if_pos ht]at this;omega)
theorem rdI_b(h:Two fu a b d)(ht:b.fType=7)(hk:(k:Int)<prod d):at? b.fI ((pl1 b.fDims d k:Nat):Int)=some (b.fI.getD (pl1 b.fDims d k) 0):=
  rd (by have:=(pl1_spec h.gb h.gd h.bb hk).2;have:=h.lb.2.1;rw[if_pos ht]at this;omega)
theorem rdB_a(h:Two fu a b d)(ht:a.fType=9)(hk:(k:Int)<prod d):at? a.fB ((pl1 a.fDims d k:Nat):Int)=some (a.fB.getD (pl1 a.fDims d k) false):=
  rd (by have:=(pl1_spec h.ga h.gd h.ba hk).2;have:=h.la.2.2;rw[if_pos ht]at this;omega)
theorem rdB_b(h:Two fu a b d)(ht:b.fType=9)(hk:(k:Int)<prod d):at? b.fB ((pl1 b.fDims d k:Nat):Int)=some (b.fB.getD (pl1 b.fDims d k) false):=
  rd (by have:=(pl1_spec h.gb h.gd h.bb hk).2;have:=h.lb.2.2;rw[if_pos ht]at this;omega)
end
end Go.Av
set_option linter.unusedVariables false
set_option linter.unusedSimpArgs false
namespace Go.Av
theorem shr_nat32{a k:Nat}(h:a<4294967296):shrk .u32 (a:Int) (k:Int)=((a / 2 ^ k:Nat):Int):=by
  unfold shrk
  rw[shr_at]
  by_cases hk:k<=32
  · rw[show min ((k:Nat):Int).toNat IntKind.u32.bits=k by simp[IntKind.bits];omega]
  · rw[show min ((k:Nat):Int).toNat IntKind.u32.bits=32 by simp[IntKind.bits];omega,pow_big (b:=32) (by simpa using h) (Nat.le_refl _),pow_big (b:=32) (by simpa using h) (by omega)]
theorem bv_nat{n a:Nat}(h:a<2 ^ n):(BitVec.ofInt n (a:Int)).toNat=a:=by
  rw[BitVec.toNat_ofInt]
  have:((a:Int)%((2 ^ n:Nat):Int))=a:=Int.emod_eq_of_lt (by omega) (by omega)
  rw[this];rfl
theorem and_nat32{a b:Nat}(ha:a<4294967296)(hb:b<4294967296):band .u32 (a:Int) (b:Int)=((a &&& b:Nat):Int):=by
  unfold band
  rw[show IntKind.u32.bits=32 from rfl,BitVec.toNat_and,bv_nat (by simpa using ha),bv_nat (by simpa using hb)]
  have:a &&& b<=a:=Nat.and_le_left
  exact u32_eq (by omega) (by omega)
theorem mask_nat32{a j:Nat}(hj:j≤32)(ha:a<4294967296):band .u32 (a:Int) ((2 ^ j - 1:Nat):Int)=((a%2 ^ j:Nat):Int):=by
  have:(2:Nat) ^ j<=2 ^ 32:=two_mono hj
  rw[and_nat32 ha (by omega),Nat.and_two_pow_sub_one_eq_mod]
theorem band_comm{k:IntKind}{x y:Int}:band k x y=band k y x:=by unfold band;rw[BitVec.and_comm]
theorem bor_comm{k:IntKind}{x y:Int}:bor k x y=bor k y x:=by unfold bor;rw[BitVec.or_comm]
def Word(x:Int):Prop:=0<=x/\x<4294967296
theorem inf_word{fu:Nat}{x:Int}{p:T_soft_number}(hx:Word x)(h:soft_open fu x=some p)(hi:p.finf=true):x=if p.fneg=true then 4286578688 else 2139095040:=by
  obtain⟨h0,h1⟩:=hx
  obtain⟨n,rfl⟩:=Int.eq_ofNat_of_zero_le h0
  have hn:n<4294967296:=by omega
  have e23:shrk .u32 (n:Int) 23=((n / 8388608:Nat):Int):=shr_nat32 (k:=23) hn
  have e31:shrk .u32 (n:Int) 31=((n / 2147483648:Nat):Int):=shr_nat32 (k:=31) hn
  have em:band .u32 ((n / 8388608:Nat):Int) 255=((n / 8388608%256:Nat):Int):=mask_nat32 (j:=8) (by decide) (by omega)
  have ef:band .u32 (n:Int) 8388607=((n%8388608:Nat):Int):=mask_nat32 (j:=23) (by decide) hn
  unfold soft_open at h
  rw[e23,em,e31,ef,wk_eq (x:=((n / 8388608%256:Nat):Int)) (by omega) (by omega),u64_eq (x:=((n%8388608:Nat):Int)) (by omega) (by omega)]at h
  split at h
  · rename_i he
    injection h with h
    subst h
    simp only[decide_eq_true_eq]at hi ⊢
    split <;> omega
  · split at h
    · injection h with h;subst h;cases hi
    · injection h with h;subst h;cases hi
theorem inf_same{fu:Nat}{x y:Int}{p q:T_soft_number}(hx:Word x)(hy:Word y)(h1:soft_open fu x=some p)(h2:soft_open fu y=some q)(i1:p.finf=true)(i2:q.finf=true)(hs:p.fneg=q.fneg):x=y:=by
  rw[inf_word hx h1 i1,inf_word hy h2 i2,hs]
theorem add_k3{fu:Nat}{a b:Bool}{e x y:Int}:soft_AddBy.k3 fu a b e x y false=soft_AddBy.k3 fu b a e y x false:=by
  unfold soft_AddBy.k3
  rw[Int.add_comm y x]
  by_cases hs:a=b
  · subst hs;simp
  · have hs2: ¬ b=a:=fun h=>hs h.symm
    have e1:(a==b)=false:=by cases a <;> cases b <;> simp_all
    have e2:(b==a)=false:=by cases a <;> cases b <;> simp_all
    rw[e1,e2]
    simp only[Bool.false_eq_true,if_false]
    by_cases he:x=y
    · rw[if_pos he,if_pos he.symm]
    · rw[if_neg he,if_neg (show ¬ y=x from fun h=>he h.symm)]
      by_cases hl:y<x
      · rw[if_pos hl,if_neg (show ¬ x<y by omega)]
      · rw[if_neg hl,if_pos (show x<y by omega)]
theorem shl_0{x:Int}(h0:0≤x)(h1:x<18446744073709551616):shlk .u64 x (wk .i64 (0:Int))=x:=by
  unfold shlk
  have:(wk .i64 (0:Int))=0:=by decide
  rw[this]
  simp
  exact u64_eq h0 h1
theorem open_sig{fu:Nat}{x:Int}{p:T_soft_number}(h:soft_open fu x=some p):0≤p.fsig∧p.fsig<18446744073709551616:=by
  unfold soft_open at h
  have hb: ∀ a b:Int,0<=bor .u64 a b/\bor .u64 a b<18446744073709551616:=λa b=>wk_u64 _
  split at h
  · injection h with h;subst h;exact⟨Int.le_refl 0,show(0:Int)<18446744073709551616 by decide⟩
  · split at h
    · injection h with h;subst h;exact wk_u64 _
    · injection h with h;subst h;exact hb _ _
theorem add_k1{fu:Nat}{p q:T_soft_number}(hp:0≤p.fsig∧p.fsig<18446744073709551616)(hq:0≤q.fsig∧q.fsig<18446744073709551616):soft_AddBy.k1 fu p q=soft_AddBy.k1 fu q p:=by
  unfold soft_AddBy.k1;try unfold jn
  by_cases h1:p.fexp<q.fexp
  · rw[if_pos h1,if_neg (by omega)]
  · rw[if_neg h1]
    by_cases h2:q.fexp<p.fexp
    · rw[if_pos h2]
    · rw[if_neg h2]
      have he:p.fexp=q.fexp:=by omega
      unfold soft_AddBy.k2;try unfold jn
      have z:wk .i64 (q.fexp - q.fexp)=wk .i64 0:=by rw[Int.sub_self]
      have z0:wk .i64 (0:Int)=0:=by decide
      rw[he,z]
      rw[if_pos (by decide),if_pos (by decide),chk_pos (by decide),chk_pos (by decide),shl_0 hp.1 hp.2,shl_0 hq.1 hq.2]
      exact add_k3
theorem Add_comm{fu:Nat}{x y:Int}(hx:Word x)(hy:Word y):soft_Add fu x y=soft_Add fu y x:=by
  unfold soft_Add soft_AddBy;try unfold jn
  obtain⟨p,hp,_,_⟩:=open_tot (fu:=fu) (x:=x)
  obtain⟨q,hq,_,_⟩:=open_tot (fu:=fu) (x:=y)
  rw[chk_pos rfl,chk_pos rfl,hp,ob_some,hq,ob_some,ob_some,ob_some,add_k1 (open_sig hq) (open_sig hp)]
  congr 1
  by_cases n1:p.fnan=true
  · by_cases n2:q.fnan=true <;> simp[n1,n2]
  · by_cases n2:q.fnan=true
    · simp[n1,n2]
    · rw [if_neg n1,if_neg n2,if_neg n2,if_neg n1]
      by_cases i1:p.finf=true
      · by_cases i2:q.finf=true
        · simp only[if_pos i1,if_pos i2]
          by_cases hs:p.fneg=q.fneg
          · have:=inf_same hx hy hp hq i1 i2 hs
            rw[this,hs]
          · have e1:(p.fneg==q.fneg)=false:=by revert hs;cases p.fneg <;> cases q.fneg <;> simp
            have e2:(q.fneg==p.fneg)=false:=by revert hs;cases p.fneg <;> cases q.fneg <;> simp
            rw[e1,e2];rfl
        · simp[i1,i2]
      · by_cases i2:q.finf=true
        · simp[i1,i2]
        · rw [if_neg i1,if_neg i2,if_neg i2,if_neg i1]
          by_cases s1:p.fsig=0
          · by_cases s2:q.fsig=0
            · simp only[if_pos s1,if_pos s2]
              by_cases he:x=y
              · rw[if_pos he,if_pos he.symm,he]
              · rw[if_neg he,if_neg (λh=>he h.symm)]
            · simp[s1,s2]
          · by_cases s2:q.fsig=0
            · simp[s1,s2]
            · simp[s1,s2]
theorem Mul_comm{fu:Nat}{x y:Int}:soft_Mul fu x y=soft_Mul fu y x:=by
  unfold soft_Mul soft_MulBy;try unfold jn
  obtain⟨p,hp,_,_⟩:=open_tot (fu:=fu) (x:=x)
  obtain⟨q,hq,_,_⟩:=open_tot (fu:=fu) (x:=y)
  rw[chk_pos rfl,chk_pos rfl,hp,ob_some,hq,ob_some,ob_some,ob_some]
  have hk:soft_MulBy.k1 fu p q=soft_MulBy.k1 fu q p:=by
    unfold soft_MulBy.k1
    rw[Bool.beq_comm,Int.add_comm,Int.mul_comm]
  rw[hk,Bool.beq_comm (a:=q.fneg)]
  congr 1
  by_cases n1:p.fnan=true
  · by_cases n2:q.fnan=true <;> simp[n1,n2]
  · by_cases n2:q.fnan=true
    · simp[n1,n2]
    · rw[if_neg n1,if_neg n2,if_neg n2,if_neg n1]
      by_cases i1:p.finf=true
      · by_cases i2:q.finf=true <;> simp[i1,i2]
      · by_cases i2:q.finf=true <;> simp[i1,i2]
def nanV(x:Int):Bool:=(soft_NaN 0 x).getD false
def plcV(x:Int):Int:=(soft_place 0 x).getD 0
theorem NaN_spec{fu:Nat}{x:Int}:soft_NaN fu x=some (nanV x):=rfl
theorem place_spec{fu:Nat}{x:Int}:soft_place fu x=some (plcV x):=by
  unfold plcV soft_place soft_Abs
  simp only[ob_some]
  split <;> rfl
def eqV(x y:Int):Bool:= !nanV x&& !nanV y&&decide (plcV x=plcV y)
theorem Equal_f{fu:Nat}{x y:Int}:soft_Equal fu x y=some (eqV x y):=by
  unfold soft_Equal eqV
  rw[NaN_spec,ob_some,NaN_spec,ob_some,place_spec,place_spec,ob_some,ob_some]
  cases nanV x <;> cases nanV y <;> simp
theorem eqV_comm{x y:Int}:eqV x y=eqV y x:=by
  unfold eqV
  rw[Bool.and_comm (!nanV x),decide_eq_decide.2 (eq_comm (a:=plcV x) (b:=plcV y))]
def lessV(x y:Int):Bool:= !nanV x&& !nanV y&&decide (plcV x<plcV y)
theorem Less_f{fu:Nat}{x y:Int}:soft_Less fu x y=some (lessV x y):=by
  unfold soft_Less lessV
  rw[NaN_spec,ob_some,NaN_spec,ob_some,place_spec,place_spec,ob_some,ob_some]
  cases nanV x <;> cases nanV y <;> simp
def minV(x y:Int):Int:=if nanV x || nanV y then 2143289344 else if plcV x=plcV y then bor .u32 x y else if plcV y<plcV x then y else x
def maxV(x y:Int):Int:=if nanV x || nanV y then 2143289344 else if plcV x=plcV y then band .u32 x y else if plcV x<plcV y then y else x
theorem Min_f{fu:Nat}{x y:Int}:soft_Min fu x y=some (minV x y):=by
  unfold soft_Min minV
  rw[NaN_spec,ob_some,NaN_spec,ob_some,Equal_f,ob_some,Less_f,ob_some]
  unfold eqV lessV
  cases nanV x <;> cases nanV y <;> by_cases h1:plcV x=plcV y <;> by_cases h2:plcV y<plcV x <;> simp[h1,h2]
theorem Max_f{fu:Nat}{x y:Int}:soft_Max fu x y=some (maxV x y):=by
  unfold soft_Max maxV
  rw[NaN_spec,ob_some,NaN_spec,ob_some,Equal_f,ob_some,Less_f,ob_some]
  unfold eqV lessV
  cases nanV x <;> cases nanV y <;> by_cases h1:plcV x=plcV y <;> by_cases h2:plcV x<plcV y <;> simp[h1,h2]
theorem minV_comm{x y:Int}:minV x y=minV y x:=by
  unfold minV
  rw[Bool.or_comm,bor_comm]
  split
  · rfl
  · by_cases h:plcV x=plcV y
    · rw[if_pos h,if_pos h.symm]
    · rw[if_neg h,if_neg (show ¬ plcV y=plcV x from fun hh=>h hh.symm)]
      by_cases h2:plcV y<plcV x
      · rw[if_pos h2,if_neg (show ¬ plcV x<plcV y by omega)]
      · rw[if_neg h2,if_pos (show plcV x<plcV y by omega)]
theorem maxV_comm{x y:Int}:maxV x y=maxV y x:=by
  unfold maxV
  rw[Bool.or_comm,band_comm]
  split
  · rfl
  · by_cases h:plcV x=plcV y
    · rw[if_pos h,if_pos h.symm]
    · rw[if_neg h,if_neg (show ¬ plcV y=plcV x from fun hh=>h hh.symm)]
      by_cases h2:plcV x<plcV y
      · rw[if_pos h2,if_neg (show ¬ plcV y<plcV x by omega)]
      · rw[if_neg h2,if_pos (show plcV y<plcV x by omega)]
def cnV(x:Int):Int:=if nanV x=true then 2143289344 else x
theorem Cn_f{fu:Nat}{x:Int}:soft_Canon fu x=some (cnV x):=by
  unfold soft_Canon cnV
  rw[NaN_spec,ob_some]
  split <;> rfl
theorem addV_comm{x y:Int}(hx:Word x)(hy:Word y):addV x y=addV y x:=by unfold addV;rw[Add_comm hx hy]
theorem mulV_comm{x y:Int}:mulV x y=mulV y x:=by unfold mulV;rw[Mul_comm]
theorem imin_comm{x y:Int}:imin x y=imin y x:=by unfold imin;split <;> split <;> omega
theorem imax_comm{x y:Int}:imax x y=imax y x:=by unfold imax;split <;> split <;> omega
end Go.Av
set_option linter.unusedVariables false
set_option linter.unusedSimpArgs false
namespace Go.Av
def eF(op x y:Int):Int:=if op=28 then cnV (addV x y)else if op=30 then cnV (mulV x y)else if op=34 then cnV (minV x y)else cnV (maxV x y)
def eI(op x y:Int):Int:=if op=28 then wk .i64 (x+y)else if op=30 then wk .i64 (x*y)else if op=34 then imin x y else imax x y
def eB(op:Int)(x y:Bool):Bool:=if op=23 then x&&y else if op=24 then x || y else if op=25 then !(x==y)else x==y
def zF(op:Int)(a b:T_Tensor)(d:List Int)(k:Nat):Int:=eF op (a.fF.getD (pl1 a.fDims d k) 0) (b.fF.getD (pl1 b.fDims d k) 0)
def zI(op:Int)(a b:T_Tensor)(d:List Int)(k:Nat):Int:=eI op (a.fI.getD (pl1 a.fDims d k) 0) (b.fI.getD (pl1 b.fDims d k) 0)
def zB(op:Int)(a b:T_Tensor)(d:List Int)(k:Nat):Bool:=eB op (a.fB.getD (pl1 a.fDims d k) false) (b.fB.getD (pl1 b.fDims d k) false)
def zT(a b:T_Tensor)(d:List Int)(k:Nat):Bool:=eqV (a.fF.getD (pl1 a.fDims d k) 0) (b.fF.getD (pl1 b.fDims d k) 0)
def zC(a b:T_Tensor)(d:List Int)(k:Nat):Bool:=decide (a.fI.getD (pl1 a.fDims d k) 0=b.fI.getD (pl1 b.fDims d k) 0)
section
variable {fu:Nat} {a b:T_Tensor} {d:List Int} {s:T_Setting}
theorem kb_23{x y:Bool}:ewise_kernelOf_3 fu x y=some (eB 23 x y):=by cases x <;> cases y <;> rfl
theorem kb_24{x y:Bool}:ewise_kernelOf_4 fu x y=some (eB 24 x y):=by cases x <;> cases y <;> rfl
theorem kb_25{x y:Bool}:ewise_kernelOf_5 fu x y=some (eB 25 x y):=by cases x <;> cases y <;> rfl
theorem kb_37{x y:Bool}:ewise_kernelOf_8 fu x y=some (eB 37 x y):=by cases x <;> cases y <;> rfl
theorem ki_28{x y:Int}:ewise_intOf_4 fu x y=some (eI 28 x y):=rfl
theorem kf_28{x y:Int}{β:Type}{f:Int->Option β}:(soft_Add fu x y).bind (λr=>(soft_Canon fu r).bind f)=f (eF 28 x y):=by rw[Add_spec,ob_some,Cn_f];rfl
theorem ki_30{x y:Int}:ewise_intOf_6 fu x y=some (eI 30 x y):=rfl
theorem kf_30{x y:Int}{β:Type}{f:Int->Option β}:(soft_Mul fu x y).bind (λr=>(soft_Canon fu r).bind f)=f (eF 30 x y):=by rw[Mul_spec,ob_some,Cn_f];rfl
theorem ki_34{x y:Int}:ewise_intOf_7 fu x y=some (eI 34 x y):=rfl
theorem kf_34{x y:Int}{β:Type}{f:Int->Option β}:(soft_Min fu x y).bind (λr=>(soft_Canon fu r).bind f)=f (eF 34 x y):=by rw[Min_f,ob_some,Cn_f];rfl
theorem ki_35{x y:Int}:ewise_intOf_8 fu x y=some (eI 35 x y):=rfl
theorem kf_35{x y:Int}{β:Type}{f:Int->Option β}:(soft_Max fu x y).bind (λr=>(soft_Canon fu r).bind f)=f (eF 35 x y):=by rw[Max_f,ob_some,Cn_f];rfl
theorem lp_23_9(h:Two fu a b d)(ta:a.fType=9)(tb:b.fType=9):ewise_Do.W1 fu s [a,b] (⟨9,d,[],[],(List.replicate (prod d).toNat false)⟩,0) (prod d,0) [] (List.replicate (prod d).toNat false) 0=some (⟨9,d,[],[],((List.range (prod d).toNat).map (zB 23 a b d))⟩,0):=by
  have hg:=h.gd
  have hf:=h.hf
  have hp:=prod_nonneg hg.2.1
  have hq:=hg.2.2
  unfold ewise_Do.W1
  refine cloop_st (body:=λnext s_1=>_) (prod d).toNat (λk=>([],(fillL (prod d).toNat (zB 23 a b d) false k),(k:Int))) _ ?_ ?_ (by omega)
  · intro k hk next hn
    show ewise_Do.L1 fu s [a,b] _ _ (λy0 y1 y2=>next (y0,y1,y2)) [] (fillL (prod d).toNat (zB 23 a b d) false k) (k:Int)=_
    have hk2:(k:Int)<prod d:=by omega
    unfold ewise_Do.L1
    dsimp only
    rw[chk_pos rfl,chk_pos (by rw[fillL_len (by omega)];simp),if_pos hk2,in_0,ob_some,in_1,ob_some,place_0 h hk2,ob_some,place_1 h hk2,ob_some,if_neg (by rw[ta];decide),if_neg (by rw[ta];decide),rdB_a h ta hk2,ob_some,rdB_b h tb hk2,ob_some,kb_23,ob_some,chk_pos ⟨by omega,by rw[fillL_len (by omega)];omega⟩,Int.toNat_natCast,wk_succ (by omega)]
    exact(congrArg (λq=>next ([],q,((k+1:Nat):Int))) (fillL_set (g:=zB 23 a b d) hk)).trans hn
  · intro next
    show ewise_Do.L1 fu s [a,b] _ _ _ [] (fillL (prod d).toNat (zB 23 a b d) false (prod d).toNat) (((prod d).toNat:Nat):Int)=_
    unfold ewise_Do.L1
    dsimp only
    rw[chk_pos rfl,chk_pos (by rw[fillL_len (Nat.le_refl _)];simp),if_neg (by omega),fillL_full]
theorem lp_24_9(h:Two fu a b d)(ta:a.fType=9)(tb:b.fType=9):ewise_Do.W2 fu s [a,b] (⟨9,d,[],[],(List.replicate (prod d).toNat false)⟩,0) (prod d,0) [] (List.replicate (prod d).toNat false) 0=some (⟨9,d,[],[],((List.range (prod d).toNat).map (zB 24 a b d))⟩,0):=by
  have hg:=h.gd
  have hf:=h.hf
  have hp:=prod_nonneg hg.2.1
  have hq:=hg.2.2
  unfold ewise_Do.W2
  refine cloop_st (body:=λnext s_1=>_) (prod d).toNat (λk=>([],(fillL (prod d).toNat (zB 24 a b d) false k),(k:Int))) _ ?_ ?_ (by omega)
  · intro k hk next hn
    show ewise_Do.L2 fu s [a,b] _ _ (λy0 y1 y2=>next (y0,y1,y2)) [] (fillL (prod d).toNat (zB 24 a b d) false k) (k:Int)=_
    have hk2:(k:Int)<prod d:=by omega
    unfold ewise_Do.L2
    dsimp only
    rw[chk_pos rfl,chk_pos (by rw[fillL_len (by omega)];simp),if_pos hk2,in_0,ob_some,in_1,ob_some,place_0 h hk2,ob_some,place_1 h hk2,ob_some,if_neg (by rw[ta];decide),if_neg (by rw[ta];decide),rdB_a h ta hk2,ob_some,rdB_b h tb hk2,ob_some,kb_24,ob_some,chk_pos ⟨by omega,by rw[fillL_len (by omega)];omega⟩,Int.toNat_natCast,wk_succ (by omega)]
    exact(congrArg (λq=>next ([],q,((k+1:Nat):Int))) (fillL_set (g:=zB 24 a b d) hk)).trans hn
  · intro next
    show ewise_Do.L2 fu s [a,b] _ _ _ [] (fillL (prod d).toNat (zB 24 a b d) false (prod d).toNat) (((prod d).toNat:Nat):Int)=_
    unfold ewise_Do.L2
    dsimp only
    rw[chk_pos rfl,chk_pos (by rw[fillL_len (Nat.le_refl _)];simp),if_neg (by omega),fillL_full]
theorem lp_25_9(h:Two fu a b d)(ta:a.fType=9)(tb:b.fType=9):ewise_Do.W3 fu s [a,b] (⟨9,d,[],[],(List.replicate (prod d).toNat false)⟩,0) (prod d,0) [] (List.replicate (prod d).toNat false) 0=some (⟨9,d,[],[],((List.range (prod d).toNat).map (zB 25 a b d))⟩,0):=by
  have hg:=h.gd
  have hf:=h.hf
  have hp:=prod_nonneg hg.2.1
  have hq:=hg.2.2
  unfold ewise_Do.W3
  refine cloop_st (body:=λnext s_1=>_) (prod d).toNat (λk=>([],(fillL (prod d).toNat (zB 25 a b d) false k),(k:Int))) _ ?_ ?_ (by omega)
  · intro k hk next hn
    show ewise_Do.L3 fu s [a,b] _ _ (λy0 y1 y2=>next (y0,y1,y2)) [] (fillL (prod d).toNat (zB 25 a b d) false k) (k:Int)=_
    have hk2:(k:Int)<prod d:=by omega
    unfold ewise_Do.L3
    dsimp only
    rw[chk_pos rfl,chk_pos (by rw[fillL_len (by omega)];simp),if_pos hk2,in_0,ob_some,in_1,ob_some,place_0 h hk2,ob_some,place_1 h hk2,ob_some,if_neg (by rw[ta];decide),if_neg (by rw[ta];decide),rdB_a h ta hk2,ob_some,rdB_b h tb hk2,ob_some,kb_25,ob_some,chk_pos ⟨by omega,by rw[fillL_len (by omega)];omega⟩,Int.toNat_natCast,wk_succ (by omega)]
    exact(congrArg (λq=>next ([],q,((k+1:Nat):Int))) (fillL_set (g:=zB 25 a b d) hk)).trans hn
  · intro next
    show ewise_Do.L3 fu s [a,b] _ _ _ [] (fillL (prod d).toNat (zB 25 a b d) false (prod d).toNat) (((prod d).toNat:Nat):Int)=_
    unfold ewise_Do.L3
    dsimp only
    rw[chk_pos rfl,chk_pos (by rw[fillL_len (Nat.le_refl _)];simp),if_neg (by omega),fillL_full]
theorem lp_28_1(h:Two fu a b d)(ta:a.fType=1)(tb:b.fType=1):ewise_Do.W4 fu s [a,b] (⟨1,d,(List.replicate (prod d).toNat 0),[],[]⟩,0) (prod d,0) (List.replicate (prod d).toNat 0) [] [] 0=some (⟨1,d,((List.range (prod d).toNat).map (zF 28 a b d)),[],[]⟩,0):=by
  have hg:=h.gd
  have hf:=h.hf
  have hp:=prod_nonneg hg.2.1
  have hq:=hg.2.2
  unfold ewise_Do.W4
  refine cloop_st (body:=λnext s_1=>_) (prod d).toNat (λk=>((fillL (prod d).toNat (zF 28 a b d) 0 k),[],[],(k:Int))) _ ?_ ?_ (by omega)
  · intro k hk next hn
    show ewise_Do.L4 fu s [a,b] _ _ (λy0 y1 y2 y3=>next (y0,y1,y2,y3)) (fillL (prod d).toNat (zF 28 a b d) 0 k) [] [] (k:Int)=_
    have hk2:(k:Int)<prod d:=by omega
    unfold ewise_Do.L4
    dsimp only
    rw[chk_pos (by rw[fillL_len (by omega)];simp),chk_pos rfl,chk_pos rfl,if_pos hk2,in_0,ob_some,in_1,ob_some,place_0 h hk2,ob_some,place_1 h hk2,ob_some,if_pos ta,if_pos rfl,rdF_a h ta hk2,ob_some,rdF_b h tb hk2,ob_some,kf_28,chk_pos ⟨by omega,by rw[fillL_len (by omega)];omega⟩,Int.toNat_natCast,wk_succ (by omega)]
    exact(congrArg (λq=>next (q,[],[],((k+1:Nat):Int))) (fillL_set (g:=zF 28 a b d) hk)).trans hn
  · intro next
    show ewise_Do.L4 fu s [a,b] _ _ _ (fillL (prod d).toNat (zF 28 a b d) 0 (prod d).toNat) [] [] (((prod d).toNat:Nat):Int)=_
    unfold ewise_Do.L4
    dsimp only
    rw[chk_pos (by rw[fillL_len (Nat.le_refl _)];simp),chk_pos rfl,chk_pos rfl,if_neg (by omega),fillL_full]
theorem lp_28_7(h:Two fu a b d)(ta:a.fType=7)(tb:b.fType=7):ewise_Do.W4 fu s [a,b] (⟨7,d,[],(List.replicate (prod d).toNat 0),[]⟩,0) (prod d,0) [] (List.replicate (prod d).toNat 0) [] 0=some (⟨7,d,[],((List.range (prod d).toNat).map (zI 28 a b d)),[]⟩,0):=by
  have hg:=h.gd
  have hf:=h.hf
  have hp:=prod_nonneg hg.2.1
  have hq:=hg.2.2
  unfold ewise_Do.W4
  refine cloop_st (body:=λnext s_1=>_) (prod d).toNat (λk=>([],(fillL (prod d).toNat (zI 28 a b d) 0 k),[],(k:Int))) _ ?_ ?_ (by omega)
  · intro k hk next hn
    show ewise_Do.L4 fu s [a,b] _ _ (λy0 y1 y2 y3=>next (y0,y1,y2,y3)) [] (fillL (prod d).toNat (zI 28 a b d) 0 k) [] (k:Int)=_
    have hk2:(k:Int)<prod d:=by omega
    unfold ewise_Do.L4
    dsimp only
    rw[chk_pos rfl,chk_pos (by rw[fillL_len (by omega)];simp),chk_pos rfl,if_pos hk2,in_0,ob_some,in_1,ob_some,place_0 h hk2,ob_some,place_1 h hk2,ob_some,if_neg (by rw[ta];decide),if_pos ta,if_pos rfl,rdI_a h ta hk2,ob_some,rdI_b h tb hk2,ob_some,ki_28,ob_some,chk_pos ⟨by omega,by rw[fillL_len (by omega)];omega⟩,Int.toNat_natCast,wk_succ (by omega)]
    exact(congrArg (λq=>next ([],q,[],((k+1:Nat):Int))) (fillL_set (g:=zI 28 a b d) hk)).trans hn
  · intro next
    show ewise_Do.L4 fu s [a,b] _ _ _ [] (fillL (prod d).toNat (zI 28 a b d) 0 (prod d).toNat) [] (((prod d).toNat:Nat):Int)=_
    unfold ewise_Do.L4
    dsimp only
    rw[chk_pos rfl,chk_pos (by rw[fillL_len (Nat.le_refl _)];simp),chk_pos rfl,if_neg (by omega),fillL_full]
theorem lp_30_1(h:Two fu a b d)(ta:a.fType=1)(tb:b.fType=1):ewise_Do.W5 fu s [a,b] (⟨1,d,(List.replicate (prod d).toNat 0),[],[]⟩,0) (prod d,0) (List.replicate (prod d).toNat 0) [] [] 0=some (⟨1,d,((List.range (prod d).toNat).map (zF 30 a b d)),[],[]⟩,0):=by
  have hg:=h.gd
  have hf:=h.hf
  have hp:=prod_nonneg hg.2.1
  have hq:=hg.2.2
  unfold ewise_Do.W5
  refine cloop_st (body:=λnext s_1=>_) (prod d).toNat (λk=>((fillL (prod d).toNat (zF 30 a b d) 0 k),[],[],(k:Int))) _ ?_ ?_ (by omega)
  · intro k hk next hn
    show ewise_Do.L5 fu s [a,b] _ _ (λy0 y1 y2 y3=>next (y0,y1,y2,y3)) (fillL (prod d).toNat (zF 30 a b d) 0 k) [] [] (k:Int)=_
    have hk2:(k:Int)<prod d:=by omega
    unfold ewise_Do.L5
    dsimp only
    rw[chk_pos (by rw[fillL_len (by omega)];simp),chk_pos rfl,chk_pos rfl,if_pos hk2,in_0,ob_some,in_1,ob_some,place_0 h hk2,ob_some,place_1 h hk2,ob_some,if_pos ta,if_pos rfl,rdF_a h ta hk2,ob_some,rdF_b h tb hk2,ob_some,kf_30,chk_pos ⟨by omega,by rw[fillL_len (by omega)];omega⟩,Int.toNat_natCast,wk_succ (by omega)]
    exact(congrArg (λq=>next (q,[],[],((k+1:Nat):Int))) (fillL_set (g:=zF 30 a b d) hk)).trans hn
  · intro next
    show ewise_Do.L5 fu s [a,b] _ _ _ (fillL (prod d).toNat (zF 30 a b d) 0 (prod d).toNat) [] [] (((prod d).toNat:Nat):Int)=_
    unfold ewise_Do.L5
    dsimp only
    rw[chk_pos (by rw[fillL_len (Nat.le_refl _)];simp),chk_pos rfl,chk_pos rfl,if_neg (by omega),fillL_full]
theorem lp_30_7(h:Two fu a b d)(ta:a.fType=7)(tb:b.fType=7):ewise_Do.W5 fu s [a,b] (⟨7,d,[],(List.replicate (prod d).toNat 0),[]⟩,0) (prod d,0) [] (List.replicate (prod d).toNat 0) [] 0=some (⟨7,d,[],((List.range (prod d).toNat).map (zI 30 a b d)),[]⟩,0):=by
  have hg:=h.gd
  have hf:=h.hf
  have hp:=prod_nonneg hg.2.1
  have hq:=hg.2.2
  unfold ewise_Do.W5
  refine cloop_st (body:=λnext s_1=>_) (prod d).toNat (λk=>([],(fillL (prod d).toNat (zI 30 a b d) 0 k),[],(k:Int))) _ ?_ ?_ (by omega)
  · intro k hk next hn
    show ewise_Do.L5 fu s [a,b] _ _ (λy0 y1 y2 y3=>next (y0,y1,y2,y3)) [] (fillL (prod d).toNat (zI 30 a b d) 0 k) [] (k:Int)=_
    have hk2:(k:Int)<prod d:=by omega
    unfold ewise_Do.L5
    dsimp only
    rw[chk_pos rfl,chk_pos (by rw[fillL_len (by omega)];simp),chk_pos rfl,if_pos hk2,in_0,ob_some,in_1,ob_some,place_0 h hk2,ob_some,place_1 h hk2,ob_some,if_neg (by rw[ta];decide),if_pos ta,if_pos rfl,rdI_a h ta hk2,ob_some,rdI_b h tb hk2,ob_some,ki_30,ob_some,chk_pos ⟨by omega,by rw[fillL_len (by omega)];omega⟩,Int.toNat_natCast,wk_succ (by omega)]
    exact(congrArg (λq=>next ([],q,[],((k+1:Nat):Int))) (fillL_set (g:=zI 30 a b d) hk)).trans hn
  · intro next
    show ewise_Do.L5 fu s [a,b] _ _ _ [] (fillL (prod d).toNat (zI 30 a b d) 0 (prod d).toNat) [] (((prod d).toNat:Nat):Int)=_
    unfold ewise_Do.L5
    dsimp only
    rw[chk_pos rfl,chk_pos (by rw[fillL_len (Nat.le_refl _)];simp),chk_pos rfl,if_neg (by omega),fillL_full]
theorem lp_34_1(h:Two fu a b d)(ta:a.fType=1)(tb:b.fType=1):ewise_Do.W6 fu s [a,b] (⟨1,d,(List.replicate (prod d).toNat 0),[],[]⟩,0) (prod d,0) (List.replicate (prod d).toNat 0) [] [] 0=some (⟨1,d,((List.range (prod d).toNat).map (zF 34 a b d)),[],[]⟩,0):=by
  have hg:=h.gd
  have hf:=h.hf
  have hp:=prod_nonneg hg.2.1
  have hq:=hg.2.2
  unfold ewise_Do.W6
  refine cloop_st (body:=λnext s_1=>_) (prod d).toNat (λk=>((fillL (prod d).toNat (zF 34 a b d) 0 k),[],[],(k:Int))) _ ?_ ?_ (by omega)
  · intro k hk next hn
    show ewise_Do.L6 fu s [a,b] _ _ (λy0 y1 y2 y3=>next (y0,y1,y2,y3)) (fillL (prod d).toNat (zF 34 a b d) 0 k) [] [] (k:Int)=_
    have hk2:(k:Int)<prod d:=by omega
    unfold ewise_Do.L6
    dsimp only
    rw[chk_pos (by rw[fillL_len (by omega)];simp),chk_pos rfl,chk_pos rfl,if_pos hk2,in_0,ob_some,in_1,ob_some,place_0 h hk2,ob_some,place_1 h hk2,ob_some,if_pos ta,if_pos rfl,rdF_a h ta hk2,ob_some,rdF_b h tb hk2,ob_some,kf_34,chk_pos ⟨by omega,by rw[fillL_len (by omega)];omega⟩,Int.toNat_natCast,wk_succ (by omega)]
    exact(congrArg (λq=>next (q,[],[],((k+1:Nat):Int))) (fillL_set (g:=zF 34 a b d) hk)).trans hn
  · intro next
    show ewise_Do.L6 fu s [a,b] _ _ _ (fillL (prod d).toNat (zF 34 a b d) 0 (prod d).toNat) [] [] (((prod d).toNat:Nat):Int)=_
    unfold ewise_Do.L6
    dsimp only
    rw[chk_pos (by rw[fillL_len (Nat.le_refl _)];simp),chk_pos rfl,chk_pos rfl,if_neg (by omega),fillL_full]
theorem lp_34_7(h:Two fu a b d)(ta:a.fType=7)(tb:b.fType=7):ewise_Do.W6 fu s [a,b] (⟨7,d,[],(List.replicate (prod d).toNat 0),[]⟩,0) (prod d,0) [] (List.replicate (prod d).toNat 0) [] 0=some (⟨7,d,[],((List.range (prod d).toNat).map (zI 34 a b d)),[]⟩,0):=by
  have hg:=h.gd
  have hf:=h.hf
  have hp:=prod_nonneg hg.2.1
  have hq:=hg.2.2
  unfold ewise_Do.W6
  refine cloop_st (body:=λnext s_1=>_) (prod d).toNat (λk=>([],(fillL (prod d).toNat (zI 34 a b d) 0 k),[],(k:Int))) _ ?_ ?_ (by omega)
  · intro k hk next hn
    show ewise_Do.L6 fu s [a,b] _ _ (λy0 y1 y2 y3=>next (y0,y1,y2,y3)) [] (fillL (prod d).toNat (zI 34 a b d) 0 k) [] (k:Int)=_
    have hk2:(k:Int)<prod d:=by omega
    unfold ewise_Do.L6
    dsimp only
    rw[chk_pos rfl,chk_pos (by rw[fillL_len (by omega)];simp),chk_pos rfl,if_pos hk2,in_0,ob_some,in_1,ob_some,place_0 h hk2,ob_some,place_1 h hk2,ob_some,if_neg (by rw[ta];decide),if_pos ta,if_pos rfl,rdI_a h ta hk2,ob_some,rdI_b h tb hk2,ob_some,ki_34,ob_some,chk_pos ⟨by omega,by rw[fillL_len (by omega)];omega⟩,Int.toNat_natCast,wk_succ (by omega)]
    exact(congrArg (λq=>next ([],q,[],((k+1:Nat):Int))) (fillL_set (g:=zI 34 a b d) hk)).trans hn
  · intro next
    show ewise_Do.L6 fu s [a,b] _ _ _ [] (fillL (prod d).toNat (zI 34 a b d) 0 (prod d).toNat) [] (((prod d).toNat:Nat):Int)=_
    unfold ewise_Do.L6
    dsimp only
    rw[chk_pos rfl,chk_pos (by rw[fillL_len (Nat.le_refl _)];simp),chk_pos rfl,if_neg (by omega),fillL_full]
theorem lp_35_1(h:Two fu a b d)(ta:a.fType=1)(tb:b.fType=1):ewise_Do.W7 fu s [a,b] (⟨1,d,(List.replicate (prod d).toNat 0),[],[]⟩,0) (prod d,0) (List.replicate (prod d).toNat 0) [] [] 0=some (⟨1,d,((List.range (prod d).toNat).map (zF 35 a b d)),[],[]⟩,0):=by
  have hg:=h.gd
  have hf:=h.hf
  have hp:=prod_nonneg hg.2.1
  have hq:=hg.2.2
  unfold ewise_Do.W7
  refine cloop_st (body:=λnext s_1=>_) (prod d).toNat (λk=>((fillL (prod d).toNat (zF 35 a b d) 0 k),[],[],(k:Int))) _ ?_ ?_ (by omega)
  · intro k hk next hn
    show ewise_Do.L7 fu s [a,b] _ _ (λy0 y1 y2 y3=>next (y0,y1,y2,y3)) (fillL (prod d).toNat (zF 35 a b d) 0 k) [] [] (k:Int)=_
    have hk2:(k:Int)<prod d:=by omega
    unfold ewise_Do.L7
    dsimp only
    rw[chk_pos (by rw[fillL_len (by omega)];simp),chk_pos rfl,chk_pos rfl,if_pos hk2,in_0,ob_some,in_1,ob_some,place_0 h hk2,ob_some,place_1 h hk2,ob_some,if_pos ta,if_pos rfl,rdF_a h ta hk2,ob_some,rdF_b h tb hk2,ob_some,kf_35,chk_pos ⟨by omega,by rw[fillL_len (by omega)];omega⟩,Int.toNat_natCast,wk_succ (by omega)]
    exact(congrArg (λq=>next (q,[],[],((k+1:Nat):Int))) (fillL_set (g:=zF 35 a b d) hk)).trans hn
  · intro next
    show ewise_Do.L7 fu s [a,b] _ _ _ (fillL (prod d).toNat (zF 35 a b d) 0 (prod d).toNat) [] [] (((prod d).toNat:Nat):Int)=_
    unfold ewise_Do.L7
    dsimp only
    rw[chk_pos (by rw[fillL_len (Nat.le_refl _)];simp),chk_pos rfl,chk_pos rfl,if_neg (by omega),fillL_full]
theorem lp_35_7(h:Two fu a b d)(ta:a.fType=7)(tb:b.fType=7):ewise_Do.W7 fu s [a,b] (⟨7,d,[],(List.replicate (prod d).toNat 0),[]⟩,0) (prod d,0) [] (List.replicate (prod d).toNat 0) [] 0=some (⟨7,d,[],((List.range (prod d).toNat).map (zI 35 a b d)),[]⟩,0):=by
  have hg:=h.gd
  have hf:=h.hf
  have hp:=prod_nonneg hg.2.1
  have hq:=hg.2.2
  unfold ewise_Do.W7
  refine cloop_st (body:=λnext s_1=>_) (prod d).toNat (λk=>([],(fillL (prod d).toNat (zI 35 a b d) 0 k),[],(k:Int))) _ ?_ ?_ (by omega)
  · intro k hk next hn
    show ewise_Do.L7 fu s [a,b] _ _ (λy0 y1 y2 y3=>next (y0,y1,y2,y3)) [] (fillL (prod d).toNat (zI 35 a b d) 0 k) [] (k:Int)=_
    have hk2:(k:Int)<prod d:=by omega
    unfold ewise_Do.L7
    dsimp only
    rw[chk_pos rfl,chk_pos (by rw[fillL_len (by omega)];simp),chk_pos rfl,if_pos hk2,in_0,ob_some,in_1,ob_some,place_0 h hk2,ob_some,place_1 h hk2,ob_some,if_neg (by rw[ta];decide),if_pos ta,if_pos rfl,rdI_a h ta hk2,ob_some,rdI_b h tb hk2,ob_some,ki_35,ob_some,chk_pos ⟨by omega,by rw[fillL_len (by omega)];omega⟩,Int.toNat_natCast,wk_succ (by omega)]
    exact(congrArg (λq=>next ([],q,[],((k+1:Nat):Int))) (fillL_set (g:=zI 35 a b d) hk)).trans hn
  · intro next
    show ewise_Do.L7 fu s [a,b] _ _ _ [] (fillL (prod d).toNat (zI 35 a b d) 0 (prod d).toNat) [] (((prod d).toNat:Nat):Int)=_
    unfold ewise_Do.L7
    dsimp only
    rw[chk_pos rfl,chk_pos (by rw[fillL_len (Nat.le_refl _)];simp),chk_pos rfl,if_neg (by omega),fillL_full]
theorem lp_37_1(h:Two fu a b d)(ta:a.fType=1)(tb:b.fType=1):ewise_Do.W8 fu s [a,b] (⟨9,d,[],[],(List.replicate (prod d).toNat false)⟩,0) (prod d,0) [] (List.replicate (prod d).toNat false) 0=some (⟨9,d,[],[],((List.range (prod d).toNat).map (zT a b d))⟩,0):=by
  have hg:=h.gd
  have hf:=h.hf
  have hp:=prod_nonneg hg.2.1
  have hq:=hg.2.2
  unfold ewise_Do.W8
  refine cloop_st (body:=λnext s_1=>_) (prod d).toNat (λk=>([],(fillL (prod d).toNat (zT a b d) false k),(k:Int))) _ ?_ ?_ (by omega)
  · intro k hk next hn
    show ewise_Do.L8 fu s [a,b] _ _ (λy0 y1 y2=>next (y0,y1,y2)) [] (fillL (prod d).toNat (zT a b d) false k) (k:Int)=_
    have hk2:(k:Int)<prod d:=by omega
    unfold ewise_Do.L8
    dsimp only
    rw[chk_pos rfl,chk_pos (by rw[fillL_len (by omega)];simp),if_pos hk2,in_0,ob_some,in_1,ob_some,place_0 h hk2,ob_some,place_1 h hk2,ob_some,if_pos ta,if_neg (by decide),rdF_a h ta hk2,ob_some,rdF_b h tb hk2,ob_some,Equal_f,ob_some,chk_pos ⟨by omega,by rw[fillL_len (by omega)];omega⟩,Int.toNat_natCast,wk_succ (by omega)]
    exact(congrArg (λq=>next ([],q,((k+1:Nat):Int))) (fillL_set (g:=zT a b d) hk)).trans hn
  · intro next
    show ewise_Do.L8 fu s [a,b] _ _ _ [] (fillL (prod d).toNat (zT a b d) false (prod d).toNat) (((prod d).toNat:Nat):Int)=_
    unfold ewise_Do.L8
    dsimp only
    rw[chk_pos rfl,chk_pos (by rw[fillL_len (Nat.le_refl _)];simp),if_neg (by omega),fillL_full]
theorem lp_37_7(h:Two fu a b d)(ta:a.fType=7)(tb:b.fType=7):ewise_Do.W8 fu s [a,b] (⟨9,d,[],[],(List.replicate (prod d).toNat false)⟩,0) (prod d,0) [] (List.replicate (prod d).toNat false) 0=some (⟨9,d,[],[],((List.range (prod d).toNat).map (zC a b d))⟩,0):=by
  have hg:=h.gd
  have hf:=h.hf
  have hp:=prod_nonneg hg.2.1
  have hq:=hg.2.2
  unfold ewise_Do.W8
  refine cloop_st (body:=λnext s_1=>_) (prod d).toNat (λk=>([],(fillL (prod d).toNat (zC a b d) false k),(k:Int))) _ ?_ ?_ (by omega)
  · intro k hk next hn
    show ewise_Do.L8 fu s [a,b] _ _ (λy0 y1 y2=>next (y0,y1,y2)) [] (fillL (prod d).toNat (zC a b d) false k) (k:Int)=_
    have hk2:(k:Int)<prod d:=by omega
    unfold ewise_Do.L8
    dsimp only
    rw[chk_pos rfl,chk_pos (by rw[fillL_len (by omega)];simp),if_pos hk2,in_0,ob_some,in_1,ob_some,place_0 h hk2,ob_some,place_1 h hk2,ob_some,if_neg (by rw[ta];decide),if_pos ta,if_neg (by decide),rdI_a h ta hk2,ob_some,rdI_b h tb hk2,ob_some,show ∀ x y:Int,ewise_kernelOf_9 fu x y=some (decide (x=y))from λ_ _=>rfl,ob_some,chk_pos ⟨by omega,by rw[fillL_len (by omega)];omega⟩,Int.toNat_natCast,wk_succ (by omega)]
    exact(congrArg (λq=>next ([],q,((k+1:Nat):Int))) (fillL_set (g:=zC a b d) hk)).trans hn
  · intro next
    show ewise_Do.L8 fu s [a,b] _ _ _ [] (fillL (prod d).toNat (zC a b d) false (prod d).toNat) (((prod d).toNat:Nat):Int)=_
    unfold ewise_Do.L8
    dsimp only
    rw[chk_pos rfl,chk_pos (by rw[fillL_len (Nat.le_refl _)];simp),if_neg (by omega),fillL_full]
theorem lp_37_9(h:Two fu a b d)(ta:a.fType=9)(tb:b.fType=9):ewise_Do.W8 fu s [a,b] (⟨9,d,[],[],(List.replicate (prod d).toNat false)⟩,0) (prod d,0) [] (List.replicate (prod d).toNat false) 0=some (⟨9,d,[],[],((List.range (prod d).toNat).map (zB 37 a b d))⟩,0):=by
  have hg:=h.gd
  have hf:=h.hf
  have hp:=prod_nonneg hg.2.1
  have hq:=hg.2.2
  unfold ewise_Do.W8
  refine cloop_st (body:=λnext s_1=>_) (prod d).toNat (λk=>([],(fillL (prod d).toNat (zB 37 a b d) false k),(k:Int))) _ ?_ ?_ (by omega)
  · intro k hk next hn
    show ewise_Do.L8 fu s [a,b] _ _ (λy0 y1 y2=>next (y0,y1,y2)) [] (fillL (prod d).toNat (zB 37 a b d) false k) (k:Int)=_
    have hk2:(k:Int)<prod d:=by omega
    unfold ewise_Do.L8
    dsimp only
    rw[chk_pos rfl,chk_pos (by rw[fillL_len (by omega)];simp),if_pos hk2,in_0,ob_some,in_1,ob_some,place_0 h hk2,ob_some,place_1 h hk2,ob_some,if_neg (by rw[ta];decide),if_neg (by rw[ta];decide),rdB_a h ta hk2,ob_some,rdB_b h tb hk2,ob_some,kb_37,ob_some,chk_pos ⟨by omega,by rw[fillL_len (by omega)];omega⟩,Int.toNat_natCast,wk_succ (by omega)]
    exact(congrArg (λq=>next ([],q,((k+1:Nat):Int))) (fillL_set (g:=zB 37 a b d) hk)).trans hn
  · intro next
    show ewise_Do.L8 fu s [a,b] _ _ _ [] (fillL (prod d).toNat (zB 37 a b d) false (prod d).toNat) (((prod d).toNat:Nat):Int)=_
    unfold ewise_Do.L8
    dsimp only
    rw[chk_pos rfl,chk_pos (by rw[fillL_len (Nat.le_refl _)];simp),if_neg (by omega),fillL_full]
end
end Go.Av
set_option linter.unusedVariables false
set_option linter.unusedSimpArgs false
namespace Go.Av
def outE(op:Int)(a b:T_Tensor)(d:List Int):T_Tensor:=
  if op=28∨op=30∨op=34∨op=35 then(if a.fType=1 then⟨1,d,(List.range (prod d).toNat).map (zF op a b d),[],[]⟩else⟨7,d,[],(List.range (prod d).toNat).map (zI op a b d),[]⟩)
  else⟨9,d,[],[],(List.range (prod d).toNat).map (if op=37/\a.fType=1 then zT a b d else if op=37/\a.fType=7 then zC a b d else zB op a b d)⟩
def AccT(op:Int)(a b:T_Tensor):Prop:=checkV a=0/\checkV b=0/\okT op a.fType/\b.fType=a.fType/\(broadcastV a.fDims b.fDims).2=0
theorem bcv_some{a b:List Int}(ga:Good a)(gb:Good b)(h:(broadcastV a b).2=0):bc a b=some (broadcastV a b).1∧Good (broadcastV a b).1:=by
  refine⟨?_,good_bc h⟩
  simp only[broadcastV,if_pos ga,if_pos gb]at h ⊢
  cases hl:bc a b with
  |none=>rw[hl]at h;exact absurd h (by decide)
  | some l=>
    rw[hl]at h
    simp only at h ⊢
    by_cases h3:Good l
    · rw[if_pos h3]
    · rw[if_neg h3]at h;exact absurd h (errS_ne _)
theorem bcv_of{a d:List Int}(ga:Good a)(gd:Good d)(h:bc a d=some d):broadcastV a d=(d,0):=by
  simp only[broadcastV,if_pos ga,if_pos gd,h]
theorem canonT_len{t:T_Tensor}(h:LensOK t):LensOK (canonT t):=by
  unfold LensOK canonT at*
  simpa using h
theorem two_of{fu:Nat}{a b:T_Tensor}(hf:4200<fu)(ca:checkV a=0)(cb:checkV b=0)(h:(broadcastV a.fDims b.fDims).2=0):Two fu (canonT a) (canonT b) (broadcastV a.fDims b.fDims).1:=by
  obtain⟨_,ga,la⟩:=checkV_zero.1 ca
  obtain⟨_,gb,lb⟩:=checkV_zero.1 cb
  obtain⟨h1,gd⟩:=bcv_some ga gb h
  obtain⟨q1,q2,_⟩:=bc_left h1
  exact⟨ga,gb,gd,bcv_of ga gd (bc_comm ▸ q1),bcv_of gb gd q2,canonT_len la,canonT_len lb,hf⟩
theorem has_spec{fu:Nat}{op:Int}(h:OPS op):ewise_Has fu op=some true:=by
  rcases h with rfl|rfl|rfl|rfl|rfl|rfl|rfl|rfl <;> rfl
theorem valOf_type{t:T_Tensor}:(valOf t).fType=t.fType:=by
  unfold valOf zeroVal
  split <;> simp_all
theorem valOf_dims{t:T_Tensor}(h:t.fType≠0):(valOf t).fDims=t.fDims:=by
  unfold valOf
  rw[if_neg h]
theorem good_nil:Good []:=by
  unfold Good
  exact⟨by decide,λx hx=>absurd hx (by simp),by decide⟩
theorem valOf_good{t:T_Tensor}(h:t.fType=0∨checkV t=0):Good (valOf t).fDims:=by
  by_cases h0:t.fType=0
  · unfold valOf
    rw[if_pos h0]
    exact good_nil
  · rw[valOf_dims h0]
    exact(checkV_zero.1 (h.resolve_left h0)).2.1
theorem check_type{t:T_Tensor}(h:checkV t=0):t.fType≠0:=by
  obtain⟨hk,_,_⟩:=checkV_zero.1 h
  rcases hk with e|e|e <;> rw[e] <;> decide
theorem newV_at{k:Int}{d:List Int}(gd:Good d)(hk:k=1∨k=7∨k=9):newV k d=(if k=1 then(⟨k,d,List.replicate (prod d).toNat 0,[],[]⟩,0)else if k=7 then(⟨k,d,[],List.replicate (prod d).toNat 0,[]⟩,0)else(⟨k,d,[],[],List.replicate (prod d).toNat false⟩,0)):=by
  unfold newV
  rw[if_pos hk,if_pos gd]
theorem Do2{fu:Nat}{op:Int}{s:T_Setting}{a b:T_Tensor}(h:OPS op)(ht:Tens fu [a,b])(hf:4200<fu):
    (AccT op a b/\ewise_Do fu op s [a,b]=some (outE op (canonT a) (canonT b) (broadcastV a.fDims b.fDims).1,0))∨(¬ AccT op a b/\ ∃ e,e≠0/\ewise_Do fu op s [a,b]=some (noT,e)):=by
  unfold ewise_Do ewise_Do.W9;try unfold jn
  rw[has_spec h,ob_some,if_pos rfl,head_loop ht (L:=ewise_Do.L9 fu op s [a,b]) (k1:=ewise_Do.k1 fu op s [a,b]) (er:=λe=>some (noT,e)) (λnx acc i=>rfl)]
  cases hb:badV [a,b]with
  | some e=>
    refine .inr ⟨λhh=> ?_,e,badV_some hb,rfl⟩
    unfold badV at hb
    rw[if_pos (.inr hh.1)]at hb
    unfold badV at hb
    rw[if_pos (.inr hh.2.1)]at hb
    cases hb
  | none=>
    have hall:=badV_none hb
    have ha:=hall a (by simp)
    have hb':=hall b (by simp)
    simp only[List.map_cons,List.map_nil]
    unfold ewise_Do.k1
    rw[Vals_all ht,ob_some]
    simp only[List.map_cons,List.map_nil]
    rcases Node2 (fu:=fu) (s:=s) h (valOf_good ha) (valOf_good hb') (by omega)with⟨hacc,hN⟩|⟨hno,l,e,he,hN⟩
    · obtain⟨h0,h1,ho,het,hbc⟩:=hacc
      rw[valOf_type]at h0 h1 ho het
      rw[valOf_type]at het
      rw[valOf_dims h0,valOf_dims h1]at hbc
      have ca:=ha.resolve_left h0
      have cb:=hb'.resolve_left h1
      refine .inl ⟨⟨ca,cb,ho,het,hbc⟩,?_⟩
      rw[hN,valOf_type,valOf_dims h0,valOf_dims h1,ob_some,if_pos rfl]
      have tw:=two_of hf ca cb hbc
      have gd:=tw.gd
      generalize hd:(broadcastV a.fDims b.fDims).1=d at*
      have h8:=gd.1
      show((at? [outV (outT op a.fType) d] 0).bind _)=_
      rw[show at? [outV (outT op a.fType) d] (0:Int)=some (outV (outT op a.fType) d)from rfl,ob_some]
      have hk:outT op a.fType=1∨outT op a.fType=7∨outT op a.fType=9:=by
        unfold outT
        split
        · exact .inr (.inr rfl)
        · exact(checkV_zero.1 ca).1
      dsimp only[outV]
      rw[New_spec (by unfold Short;omega) (by omega),ob_some,Size_spec (by unfold Short;omega) (by omega),ob_some,newV_at gd hk]
      have hz:sizeV d=(prod d,0):=by simp only[sizeV,if_pos gd]
      rw[hz]
      have ta':(canonT a).fType=a.fType:=rfl
      have tb':(canonT b).fType=a.fType:=het
      rcases h with rfl|rfl|rfl|rfl|rfl|rfl|rfl|rfl
      · have t9:a.fType=9:=ho
        exact lp_23_9 tw t9 (tb'.trans t9)
      · have t9:a.fType=9:=ho
        exact lp_24_9 tw t9 (tb'.trans t9)
      · have t9:a.fType=9:=ho
        exact lp_25_9 tw t9 (tb'.trans t9)
      · rcases(ho:a.fType=1∨a.fType=7)with t|t
        · have e1:outT 28 a.fType=1:=t
          rw[e1];exact(lp_28_1 tw t (tb'.trans t)).trans (by unfold outE;rw[if_pos (by decide),if_pos (show(canonT a).fType=1 from t)])
        · have e1:outT 28 a.fType=7:=t
          rw[e1];exact(lp_28_7 tw t (tb'.trans t)).trans (by unfold outE;rw[if_pos (by decide),if_neg (by rw[ta',t];decide)])
      · rcases(ho:a.fType=1∨a.fType=7)with t|t
        · have e1:outT 30 a.fType=1:=t
          rw[e1];exact(lp_30_1 tw t (tb'.trans t)).trans (by unfold outE;rw[if_pos (by decide),if_pos (show(canonT a).fType=1 from t)])
        · have e1:outT 30 a.fType=7:=t
          rw[e1];exact(lp_30_7 tw t (tb'.trans t)).trans (by unfold outE;rw[if_pos (by decide),if_neg (by rw[ta',t];decide)])
      · rcases(ho:a.fType=1∨a.fType=7)with t|t
        · have e1:outT 34 a.fType=1:=t
          rw[e1];exact(lp_34_1 tw t (tb'.trans t)).trans (by unfold outE;rw[if_pos (by decide),if_pos (show(canonT a).fType=1 from t)])
        · have e1:outT 34 a.fType=7:=t
          rw[e1];exact(lp_34_7 tw t (tb'.trans t)).trans (by unfold outE;rw[if_pos (by decide),if_neg (by rw[ta',t];decide)])
      · rcases(ho:a.fType=1∨a.fType=7)with t|t
        · have e1:outT 35 a.fType=1:=t
          rw[e1];exact(lp_35_1 tw t (tb'.trans t)).trans (by unfold outE;rw[if_pos (by decide),if_pos (show(canonT a).fType=1 from t)])
        · have e1:outT 35 a.fType=7:=t
          rw[e1];exact(lp_35_7 tw t (tb'.trans t)).trans (by unfold outE;rw[if_pos (by decide),if_neg (by rw[ta',t];decide)])
      · rcases(ho:a.fType=1∨a.fType=7∨a.fType=9)with t|t|t
        · exact(lp_37_1 tw t (tb'.trans t)).trans (by unfold outE;rw[if_neg (by decide),if_pos (show(37:Int)=37/\(canonT a).fType=1 from⟨rfl,t⟩)])
        · exact(lp_37_7 tw t (tb'.trans t)).trans (by unfold outE;rw[if_neg (by decide),if_neg (by rw[ta',t];decide),if_pos (show(37:Int)=37/\(canonT a).fType=7 from⟨rfl,t⟩)])
        · exact(lp_37_9 tw t (tb'.trans t)).trans (by unfold outE;rw[if_neg (by decide),if_neg (by rw[ta',t];decide),if_neg (by rw[ta',t];decide)])
    · refine .inr ⟨fun hh=>hno ?_,e,he,?_⟩
      · have t0:=check_type hh.1
        have t1:=check_type hh.2.1
        refine⟨by rw[valOf_type];exact t0,by rw[valOf_type];exact t1,by rw[valOf_type];exact hh.2.2.1,by rw[valOf_type,valOf_type];exact hh.2.2.2.1,?_⟩
        rw[valOf_dims t0,valOf_dims t1]
        exact hh.2.2.2.2
      · rw[hN,ob_some,if_neg he]
        rfl
end Go.Av
set_option linter.unusedVariables false
set_option linter.unusedSimpArgs false
namespace Go.Av
theorem canonF_word{x:Int}(h:Word x):Word (canonF x):=by
  unfold canonF
  split
  · exact⟨by decide,by decide⟩
  · exact h
theorem word_getD{t:T_Tensor}(h:Ten t)(j:Nat):Word ((canonT t).fF.getD j 0):=by
  rw[List.getD_eq_getElem?_getD]
  cases hj:(canonT t).fF[j]? with
  |none=>exact⟨by decide,by decide⟩
  | some x=>
    have hx:x ∈ (canonT t).fF:=List.mem_of_getElem? hj
    obtain⟨y,hy,rfl⟩:=List.mem_map.1 (show x ∈ t.fF.map canonF from hx)
    exact canonF_word (h.2.2.2.2 y hy)
theorem eF_comm{op x y:Int}(hx:Word x)(hy:Word y):eF op x y=eF op y x:=by
  unfold eF
  rw[addV_comm hx hy,mulV_comm,minV_comm,maxV_comm]
theorem eI_comm{op x y:Int}:eI op x y=eI op y x:=by
  unfold eI
  rw[Int.add_comm,Int.mul_comm,imin_comm,imax_comm]
theorem eB_comm{op:Int}{x y:Bool}:eB op x y=eB op y x:=by
  unfold eB
  cases x <;> cases y <;> rfl
theorem outE_comm{op:Int}{a b:T_Tensor}{d:List Int}(ta:Ten a)(tb:Ten b)(ht:b.fType=a.fType):outE op (canonT a) (canonT b) d=outE op (canonT b) (canonT a) d:=by
  have e0:(canonT b).fType=(canonT a).fType:=ht
  have e1:zF op (canonT a) (canonT b) d=zF op (canonT b) (canonT a) d:=funext λk=>eF_comm (word_getD ta _) (word_getD tb _)
  have e2:zI op (canonT a) (canonT b) d=zI op (canonT b) (canonT a) d:=funext λk=>eI_comm
  have e3:zB op (canonT a) (canonT b) d=zB op (canonT b) (canonT a) d:=funext λk=>eB_comm
  have e4:zT (canonT a) (canonT b) d=zT (canonT b) (canonT a) d:=funext λk=>eqV_comm
  have e5:zC (canonT a) (canonT b) d=zC (canonT b) (canonT a) d:=funext λk=>decide_eq_decide.2 eq_comm
  unfold outE
  rw[e0,e1,e2,e3,e4,e5]
theorem bcv_comm{a b:List Int}(ga:Good a)(gb:Good b):broadcastV a b=broadcastV b a:=by
  simp only[broadcastV,if_pos ga,if_pos gb]
  rw[bc_comm]
theorem AccT_comm{op:Int}{a b:T_Tensor}(h:AccT op a b):AccT op b a:=by
  obtain⟨h1,h2,h3,h4,h5⟩:=h
  refine⟨h2,h1,by rw[h4];exact h3,h4.symm,?_⟩
  rw[bcv_comm (checkV_zero.1 h2).2.1 (checkV_zero.1 h1).2.1]
  exact h5
theorem outE_small{fu:Nat}{op:Int}{a b:T_Tensor}{d:List Int}(gd:Good d)(hf:5000<fu):Small (outE op a b d)∧Fuel fu (outE op a b d):=by
  have h1:=gd.1
  have h2:=gd.2.2
  have h3:=prod_nonneg gd.2.1
  have key: ∀ (k:Int) (f i:List Int) (q:List Bool),f.length≤4096→i.length≤4096→q.length≤4096→Small (⟨k,d,f,i,q⟩:T_Tensor)∧Fuel fu (⟨k,d,f,i,q⟩:T_Tensor):=fun k f i q a b c=>
    ⟨⟨by show d.length*8<=_;omega,by show f.length<=_;omega,by show i.length<=_;omega,by show q.length<=_;omega⟩,⟨by show d.length<fu;omega,by show f.length<fu;omega,by show i.length<fu;omega,by show q.length<fu;omega⟩⟩
  unfold outE
  split
  · split
    · exact key _ _ _ _ (by simp;omega) (by simp) (by simp)
    · exact key _ _ _ _ (by simp) (by simp;omega) (by simp)
  · exact key _ _ _ _ (by simp) (by simp) (by simp;omega)
theorem swap_one{fu:Nat}{op:Int}{s:T_Setting}{a b:T_Tensor}(h:OPS op)(ht:Tens fu [a,b])(ht2:Tens fu [b,a])(ta:Ten a)(tb:Ten b)(hf:5000<fu):
    ((ewise_Do fu op s [a,b]).bind λx=>(ewise_Do fu op s [b,a]).bind λy=>if((decide (x.2=0))==(decide (y.2=0)))=true then((ref05_Same fu x.1 y.1).bind λz=>some z)else some false)=some true:=by
  rcases Do2 (s:=s) h ht (by omega)with⟨hA,e1⟩|⟨hA,c,hc,e1⟩
  · rcases Do2 (s:=s) h ht2 (by omega)with⟨hB,e2⟩|⟨hB,_⟩
    · rw[e1,e2,ob_some,ob_some]
      have ga:=(checkV_zero.1 hA.1).2.1
      have gb:=(checkV_zero.1 hA.2.1).2.1
      have gd:=good_bc hA.2.2.2.2
      rw[if_pos (by rfl),bcv_comm gb ga,outE_comm tb ta hA.2.2.2.1.symm,refSame_spec (outE_small gd hf).1 (outE_small gd hf).2,ob_some,sameT_self]
    · exact absurd (AccT_comm hA) hB
  · rcases Do2 (s:=s) h ht2 (by omega)with⟨hB,_⟩|⟨hB,c2,hc2,e2⟩
    · exact absurd (AccT_comm hB) hA
    · rw[e1,e2,ob_some,ob_some]
      have b:Small noT/\Fuel fu noT:=⟨⟨by simp[noT],by simp[noT],by simp[noT],by simp[noT]⟩,⟨by show 0<fu;omega,by show 0<fu;omega,by show 0<fu;omega,by show 0<fu;omega⟩⟩
      rw[if_pos (by simp[hc,hc2]),refSame_spec b.1 b.2,ob_some,sameT_self]
end Go.Av
