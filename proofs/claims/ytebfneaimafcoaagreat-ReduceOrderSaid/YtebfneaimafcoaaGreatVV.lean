/- Layer 4, shapes: what the plain functions come to. Strides, indices, offsets. Copies. Layer 5: sameness, whether a tensor may be, copies whose no numbers are one. Lists of numbers alike. Sameness of two tensors. Any tensors: as constant values; whether each may be. New tensors, elements picked. The document's size, and whether a tensor may be. Axes. Reductions of one row: what infer tells, and what they do. Made by a program of mine: the same text for each of four operators. The greater and the lesser float as places of an order; folds that do not hang on the order. The document's new, checked and picked tensors. What the four reductions make of a row, there and turned. The reductions of tensors of one dim, there and turned; the turned. Conditions: those that each names. -/
import Derived.Test.YtebfneaimafcoaaGreatQS
import Derived.Test.YtebfneaimafcoaaGreatPl
set_option linter.unusedVariables false
namespace Go.Av
def fstAt(p:Int→Bool):Nat→List Int→Int
  |_,[]=> -1
  |i,x::l=>if p x=true then i else fstAt p (i+1) l
theorem fstAt_any(p:Int→Bool): ∀ (l:List Int) (i:Nat),decide (0≤fstAt p i l)=l.any p
  |[],i=>rfl
  | x::l,i=>by
    simp only[fstAt,List.any_cons]
    by_cases h:p x=true
    · simp[h]
    · simp[h,← fstAt_any p l (i+1)]
def Short(l:List Int):Prop:=l.length<=140737488355328
theorem wk_succ{k:Nat}(h:k<=140737488355328):wk .i64 ((k:Int)+1)=((k+1:Nat):Int):=by rw[wk_eq (by omega) (by omega)];omega
theorem IndexFunc_spec{fu:Nat}{l:List Int}{p:Int→Option Bool}{q:Int→Bool}(hp: ∀ x,p x=some (q x))(hl:Short l)(hf:l.length<fu):slices_IndexFunc_int fu l p=some (fstAt q 0 l):=by
  unfold slices_IndexFunc_int slices_IndexFunc_int.W1
  refine cloop_ind (λ(i:Int)=>some (fstAt q i.toNat (l.drop i.toNat))) (λi=>0<=i/\i<=l.length) (λi=>l.length - i.toNat) ?_ fu 0 (by omega) (by simp;omega)
  rintro i ⟨h0,h1⟩ next hn
  obtain⟨k,rfl⟩:=Int.eq_ofNat_of_zero_le h0
  unfold slices_IndexFunc_int.L1
  simp only[Int.toNat_natCast]
  by_cases hk:k<l.length
  · rw[if_pos (by omega),at?_get hk,ob_some,hp,ob_some,List.drop_eq_getElem_cons hk]
    simp only[fstAt]
    by_cases hq:q l[k]=true
    · rw[if_pos hq,if_pos hq]
    · rw[if_neg hq,if_neg hq,wk_succ (by unfold Short at hl;omega),hn _ (by omega) (by simp;omega)]
      simp
  · rw[if_neg (by omega),List.drop_of_length_le (by omega)];rfl
theorem ContainsFunc_spec{fu:Nat}{l:List Int}{p:Int→Option Bool}{q:Int→Bool}(hp: ∀ x,p x=some (q x))(hl:Short l)(hf:l.length<fu):slices_ContainsFunc_int fu l p=some (l.any q):=by
  unfold slices_ContainsFunc_int
  rw[IndexFunc_spec hp hl hf,ob_some,fstAt_any]
theorem IndexI_spec{fu:Nat}{l:List Int}{x:Int}(hl:Short l)(hf:l.length<fu):slices_Index_int fu l x=some (fstAt (fun y=>decide (x=y)) 0 l):=by
  unfold slices_Index_int slices_Index_int.W1
  refine cloop_ind (λ(i:Int)=>some (fstAt (λy=>decide (x=y)) i.toNat (l.drop i.toNat))) (λi=>0<=i/\i<=l.length) (λi=>l.length - i.toNat) ?_ fu 0 (by omega) (by simp;omega)
  rintro i ⟨h0,h1⟩ next hn
  obtain⟨k,rfl⟩:=Int.eq_ofNat_of_zero_le h0
  unfold slices_Index_int.L1
  simp only[Int.toNat_natCast]
  by_cases hk:k<l.length
  · rw[if_pos (by omega),at?_get hk,ob_some,List.drop_eq_getElem_cons hk]
    simp only[fstAt]
    by_cases hq:x=l[k]
    · rw[if_pos hq,if_pos (by simpa using hq)]
    · rw[if_neg hq,if_neg (by simpa using hq),wk_succ (by unfold Short at hl;omega),hn _ (by omega) (by simp;omega)]
      simp
  · rw[if_neg (by omega),List.drop_of_length_le (by omega)];rfl
theorem Contains_spec{fu:Nat}{l:List Int}{x:Int}(hl:Short l)(hf:l.length<fu):slices_Contains_int fu l x=some (l.any fun y=>decide (x=y)):=by
  unfold slices_Contains_int
  rw[IndexI_spec hl hf,ob_some,fstAt_any]
def prod:List Int→Int
  |[]=>1
  |x::l=>x*prod l
def Rng(l:List Int):Prop:= ∀ x ∈ l,0<=x/\x<=4096
def Good(l:List Int):Prop:=l.length<=8/\Rng l/\prod l<=4096
instance (l:List Int):Decidable (Rng l):=by unfold Rng;infer_instance
instance (l:List Int):Decidable (Good l):=by unfold Good;infer_instance
def errS(l:List Int):Int:=if l.any (λx=>decide (x<0))=true then 1 else 4
def sizeV(l:List Int):Int×Int:=if Good l then(prod l,0)else(0,errS l)
theorem errS_ne(l:List Int):errS l≠0:=by unfold errS;split <;> decide
theorem prod_nonneg: ∀ {l:List Int},Rng l→0≤prod l
  |[],_=>by decide
  |x::l,h=>Int.mul_nonneg (h x (by simp)).1 (prod_nonneg λy hy=>h y (by simp[hy]))
theorem prod_pos: ∀ {l:List Int},(∀ x ∈ l,1≤x)→1≤prod l
  |[],_=>by decide
  | x::l,h=>by
    have h1:=h x (by simp)
    have h2:=prod_pos (l:=l) λy hy=>h y (by simp[hy])
    have:=Int.mul_le_mul h1 h2 (by decide) (by omega)
    simpa[prod]using this
theorem prod_zero: ∀ {l:List Int},0 ∈ l→prod l=0
  | x::l,h=>by
    rcases List.mem_cons.1 h with rfl|h
    · simp[prod]
    · simp[prod,prod_zero h]
theorem div_lt_iff{m d:Int}(hm:1≤m)(hd:0≤d):(Int.tdiv 4096 m<d) ↔ 4096<m*d:=by
  rw[Int.tdiv_eq_ediv_of_nonneg (by decide)]
  constructor
  · intro h
    have:=Int.lt_mul_of_ediv_lt (by omega:0<m) h
    rwa[Int.mul_comm]at this
  · intro h
    exact Int.ediv_lt_of_lt_mul (by omega) (by rwa[Int.mul_comm])
theorem SizeW_spec{fu:Nat}{l:List Int}(hp: ∀ x ∈ l,1≤x∧x≤4096)(hl:l.length≤8)(hf:l.length<fu):shape_Size.W1 fu l 1 0=some (if prod l≤4096 then(prod l,0)else(0,4)):=by
  unfold shape_Size.W1
  refine(cloop_ind (λ(s:Int×Int)=>some (if s.1*prod (l.drop s.2.toNat)<=4096 then(s.1*prod (l.drop s.2.toNat),0)else(0,4))) (λs=>0<=s.2/\s.2<=l.length/\1<=s.1/\s.1<=4096) (λs=>l.length - s.2.toNat) ?_ fu (1,0) (by simp) (by simp;omega)).trans (by simp)
  rintro⟨m,i⟩ ⟨h0,h1,h2,h3⟩ next hn
  simp only at h0 h1 h2 h3 hn ⊢
  obtain⟨k,rfl⟩:=Int.eq_ofNat_of_zero_le h0
  unfold shape_Size.L1
  simp only[Int.toNat_natCast]
  by_cases hk:k<l.length
  · obtain⟨q1,q2⟩:=hp _ (List.getElem_mem hk)
    have t0:0≤Int.tdiv 4096 m∧Int.tdiv 4096 m≤4096:=by
      rw[Int.tdiv_eq_ediv_of_nonneg (by decide)]
      exact⟨Int.ediv_nonneg (by decide) (by omega),Int.ediv_le_self _ (by decide)⟩
    rw[if_pos (by omega),at?_get hk,ob_some,chk_pos (by omega),wk_eq (by omega) (by omega),List.drop_eq_getElem_cons hk]
    have hpos:1<=prod (l.drop (k+1)):=prod_pos λx hx=>(hp x (List.mem_of_mem_drop hx)).1
    have hge:1<=m*l[k]:=by have:=Int.mul_le_mul h2 q1 (by decide) (by omega);simpa using this
    simp only[prod,← Int.mul_assoc]
    by_cases hd:Int.tdiv 4096 m<l[k]
    · rw[if_pos hd]
      rw[div_lt_iff h2 (by omega)]at hd
      have:m*l[k]*1<=m*l[k]*prod (l.drop (k+1)):=Int.mul_le_mul_of_nonneg_left hpos (by omega)
      rw[if_neg (by omega)]
    · rw[if_neg hd]
      rw[div_lt_iff h2 (by omega)]at hd
      rw[wk_eq (by omega) (by omega),wk_succ (by omega),hn (m*l[k],((k+1:Nat):Int)) ⟨by simp only[];omega,by simp only[];omega,hge,by simp only[];omega⟩ (by simp;omega)]
      simp
  · rw[if_neg (by omega),List.drop_of_length_le (by omega)]
    simp only[prod,Int.mul_one]
    rw[if_pos h3]
theorem Size_spec{fu:Nat}{l:List Int}(hl:Short l)(hf:l.length<fu):shape_Size fu l=some (sizeV l):=by
  unfold shape_Size;try unfold jn
  rw[ContainsFunc_spec (p:=λy0=>shape_Size_1 fu y0) (q:=λx=>decide (x<0)) (λx=>rfl) hl hf,ob_some]
  by_cases h1:l.any (λx=>decide (x<0))=true
  · rw[if_pos h1]
    have hg: ¬ Good l:=fun hg=>by
      obtain⟨x,hx,hx2⟩:=List.any_eq_true.1 h1
      have:=(hg.2.1 x hx).1
      simp at hx2;omega
    simp only[sizeV,if_neg hg,errS,if_pos h1]
  rw[if_neg h1]
  have he:errS l=4:=by simp only[errS,if_neg h1]
  by_cases h2:8<(l.length:Int)
  · rw[if_pos h2]
    have hg: ¬ Good l:=λhg=>by have:=hg.1;omega
    simp only[sizeV,if_neg hg,he]
  rw[if_neg h2,ContainsFunc_spec (p:=λy0=>shape_Size_2 fu y0) (q:=λx=>decide (4096<x)) (λx=>rfl) hl hf,ob_some]
  by_cases h3:l.any (λx=>decide (4096<x))=true
  · rw[if_pos h3]
    have hg: ¬ Good l:=fun hg=>by
      obtain⟨x,hx,hx2⟩:=List.any_eq_true.1 h3
      have:=(hg.2.1 x hx).2
      simp at hx2;omega
    simp only[sizeV,if_neg hg,he]
  rw[if_neg h3]
  have hr:Rng l:=fun x hx=>by
    simp only[List.any_eq_true,decide_eq_true_eq,not_exists,not_and]at h1 h3
    have:=h1 x hx;have:=h3 x hx;omega
  unfold shape_Size.k1
  rw[Contains_spec hl hf,ob_some]
  by_cases h4:(l.any λy=>decide ((0:Int)=y))=true
  · rw[if_pos h4]
    have hz:(0:Int) ∈ l:=by
      obtain⟨x,hx,hx2⟩:=List.any_eq_true.1 h4
      simp at hx2;subst hx2;exact hx
    have hg:Good l:=⟨by omega,hr,by rw[prod_zero hz];decide⟩
    simp only[sizeV,if_pos hg,prod_zero hz]
  rw[if_neg h4]
  have hp: ∀ x ∈ l,1≤x∧x≤4096:=fun x hx=>by
    have:=hr x hx
    simp only[List.any_eq_true,decide_eq_true_eq,not_exists,not_and]at h4
    have:=h4 x hx;omega
  rw[SizeW_spec hp (by omega) hf]
  by_cases h5:prod l<=4096
  · have hg:Good l:=⟨by omega,hr,h5⟩
    simp only[sizeV,if_pos hg,if_pos h5]
  · have hg: ¬ Good l:=fun hg=>h5 hg.2.2
    simp only[sizeV,if_neg hg,if_neg h5,he]
end Go.Av
set_option linter.unusedVariables false
namespace Go.Av
def strdW:List Int→List Int
  |[]=>[]
  |_::l=>wk .i64 (prod l)::strdW l
theorem strdW_length: ∀ l,(strdW l).length=l.length
  |[]=>rfl
  |_::l=>by simp[strdW,strdW_length l]
theorem rep_set(i:Nat)(x:Int)(s:List Int):(List.replicate (i+1) 0++s).set i x=List.replicate i 0++x::s:=by
  rw[List.replicate_succ',List.append_assoc,List.set_append_right _ _ (by simp)]
  simp
theorem strides_spec{fu:Nat}{l:List Int}(hl:l.length*8≤140737488355328)(hf:l.length<fu):shape_strides fu l=some (strdW l):=by
  unfold shape_strides shape_strides.W1
  rw[chk_pos (by omega)]
  have hw:wk .i64 ((l.length:Int) - 1)=((l.length:Int) - 1):=wk_eq (by omega) (by omega)
  rw[hw,Int.toNat_natCast]
  refine(cloop_ind (λ_=>some (strdW l)) (λ(s:List Int×Int×Int)=> ∃ k:Nat,k<=l.length/\s=(List.replicate k 0++strdW (l.drop k),wk .i64 (prod (l.drop k)),(k:Int) - 1)) (λs=>(s.2.2+1).toNat) ?_ fu _ ⟨l.length,Nat.le_refl _,by simp[strdW,prod];decide⟩ (by simp;omega))
  rintro _ ⟨k,hk,rfl⟩ next hn
  unfold shape_strides.L1
  simp only
  match k,hk with
  |0,_=>rw[if_neg (by decide)];simp
  | k+1,hk=>
    have e1:(((k+1:Nat):Int) - 1)=(k:Int):=by omega
    have hlen:(List.replicate (k+1) (0:Int)++strdW (l.drop (k+1))).length=l.length:=by simp[strdW_length];omega
    rw[e1,if_pos (by omega),hlen,chk_pos (by omega),at?_get (by omega),ob_some,Int.toNat_natCast,rep_set,wk_mul_l,wk_eq (x:=(k:Int) - 1) (by omega) (by omega)]
    refine hn _ ⟨k,by omega,?_⟩ (by simp)
    rw[List.drop_eq_getElem_cons (by omega:k<l.length)]
    simp only[strdW,prod]
    rw[Int.mul_comm]
end Go.Av
set_option linter.unusedVariables false
namespace Go.Av
theorem Clone_spec{fu:Nat}{l:List Int}(h:l.length*8≤140737488355328):slices_Clone_int fu l=some l:=by
  unfold slices_Clone_int
  rw[chk_pos (by omega)]
end Go.Av
set_option linter.unusedVariables false
namespace Go.Av
def sameT(a b:T_Tensor):Bool:=decide (a.fType=b.fType)&&decide (a.fDims=b.fDims)&&decide (a.fF=b.fF)&&decide (a.fI=b.fI)&&decide (a.fB=b.fB)
def Small(t:T_Tensor):Prop:=t.fDims.length*8<=140737488351232/\t.fF.length<=140737488351232/\t.fI.length<=140737488351232/\t.fB.length<=140737488351232
def Fuel(fu:Nat)(t:T_Tensor):Prop:=t.fDims.length<fu/\t.fF.length<fu/\t.fI.length<fu/\t.fB.length<fu
theorem sameT_self(a:T_Tensor):sameT a a=true:=by simp[sameT]
def noT:T_Tensor:=⟨0,[],[],[],[]⟩
theorem known_spec{fu:Nat}{k:Int}:tens_known fu k=some (decide (k=1∨k=7∨k=9)):=by
  unfold tens_known tens_Width
  by_cases h1:k=1
  · simp[h1]
  · by_cases h2:k=7
    · simp[h2]
    · by_cases h3:k=9 <;> simp[h1,h2,h3]
def Known(k:Int):Prop:=k=1∨k=7∨k=9
instance (k:Int):Decidable (Known k):=by unfold Known;infer_instance
def LensOK(t:T_Tensor):Prop:=(t.fF.length:Int)=(if t.fType=1 then prod t.fDims else 0)/\(t.fI.length:Int)=(if t.fType=7 then prod t.fDims else 0)/\(t.fB.length:Int)=(if t.fType=9 then prod t.fDims else 0)
instance (t:T_Tensor):Decidable (LensOK t):=by unfold LensOK;infer_instance
def checkV(t:T_Tensor):Int:=if Known t.fType then(if Good t.fDims then(if LensOK t then 0 else 3)else errS t.fDims)else 5
theorem Check_spec{fu:Nat}{t:T_Tensor}(hs:Small t)(hf:Fuel fu t):tens_Check fu t=some (checkV t):=by
  obtain⟨s1,s2,s3,s4⟩:=hs
  unfold tens_Check checkV;try unfold jn
  rw[known_spec,ob_some,Size_spec (by unfold Short;omega) hf.1]
  by_cases hk:Known t.fType
  · rw [if_pos (by simpa[Known]using hk),ob_some,if_pos hk]
    simp only[sizeV]
    by_cases hg:Good t.fDims
    · simp only[if_pos hg,if_true]
      have hp:=prod_nonneg hg.2.1
      have hsum:wk .i64 ((wk .i64 ((t.fF.length:Int)+(t.fI.length:Int)))+(t.fB.length:Int))=t.fF.length+t.fI.length+t.fB.length:=by
        rw[wk_add_l,wk_eq (by omega) (by omega)]
      unfold tens_Check.k1 LensOK
      simp only[hsum]
      rcases hk with e|e|e
      · simp only[e,show ¬ (1:Int)=7 by decide,show ¬ (1:Int)=9 by decide,if_false,if_true]
        by_cases h1:(t.fF.length:Int)=prod t.fDims
        · by_cases h2:(t.fF.length:Int)+t.fI.length+t.fB.length=prod t.fDims
          · rw[if_pos h1,if_pos h2,if_pos ⟨h1,by omega,by omega⟩]
          · rw[if_pos h1,if_neg h2,if_neg (λh=>h2 (by omega))]
        · rw[if_neg h1,if_neg (λh=>h1 h.1)]
      · simp only[e,show ¬ (7:Int)=1 by decide,show ¬ (7:Int)=9 by decide,if_false,if_true]
        by_cases h1:(t.fI.length:Int)=prod t.fDims
        · by_cases h2:(t.fF.length:Int)+t.fI.length+t.fB.length=prod t.fDims
          · rw[if_pos h1,if_pos h2,if_pos ⟨by omega,h1,by omega⟩]
          · rw[if_pos h1,if_neg h2,if_neg (λh=>h2 (by omega))]
        · rw[if_neg h1,if_neg (λh=>h1 h.2.1)]
      · simp only[e,show ¬ (9:Int)=1 by decide,show ¬ (9:Int)=7 by decide,if_false,if_true]
        by_cases h1:(t.fB.length:Int)=prod t.fDims
        · by_cases h2:(t.fF.length:Int)+t.fI.length+t.fB.length=prod t.fDims
          · rw[if_pos h1,if_pos h2,if_pos ⟨by omega,by omega,h1⟩]
          · rw[if_pos h1,if_neg h2,if_neg (λh=>h2 (by omega))]
        · rw[if_neg h1,if_neg (λh=>h1 h.2.2)]
    · simp only[if_neg hg]
      rw[if_neg (errS_ne _)]
  · rw[if_neg (by simpa[Known]using hk),if_neg hk]
theorem checkV_zero{t:T_Tensor}:checkV t=0 ↔ Known t.fType∧Good t.fDims∧LensOK t:=by
  unfold checkV
  by_cases hk:Known t.fType <;> by_cases hg:Good t.fDims <;> by_cases hl:LensOK t <;> simp[hk,hg,hl,errS_ne]
theorem map_loop{β:Type}{l:List Int}{f:Int→Int}{B:((List Int×Int)→Option β)→(List Int×Int)→Option β}{c:List Int→Option β}{fu:Nat}(hf:l.length<fu)
    (hB: ∀ (next:List Int×Int->Option β) (k:Nat) (m:List Int) (hk:k<l.length),m.length=l.length->(hm:m[k]? =some l[k])->B next (m,(k:Int))=next (m.set k (f l[k]),((k+1:Nat):Int)))
    (hE: ∀ next (m:List Int),m.length=l.length->B next (m,(l.length:Int))=c m):cloop B fu (l,0)=c (l.map f):=by
  have:=cloop_up (body:=B) (n:=fu) l.length (λk=>(l.take k).map f++l.drop k) (c (l.map f)) ?_ ?_ hf
  · simpa using this
  · intro k hk next hn
    have hlk:((l.take k).map f).length=k:=by simp;omega
    rw[hB next k _ hk (by simp;omega) (by rw[List.getElem?_append_right (by omega),hlk,Nat.sub_self,List.getElem?_drop];simp[hk])]
    have e:((l.take k).map f++l.drop k).set k (f l[k])=(l.take (k+1)).map f++l.drop (k+1):=by
      rw[List.set_append_right _ _ (by omega),hlk,Nat.sub_self,List.drop_eq_getElem_cons hk,List.set_cons_zero,List.take_add_one,List.getElem?_eq_getElem hk,List.map_append,List.append_assoc]
      rfl
    rw[e]
    exact hn
  · intro next
    rw[hE _ _ (by simp)]
    simp
def canonF(x:Int):Int:=if 2139095040<x%2147483648 then 2143289344 else x
def canonT(t:T_Tensor):T_Tensor:=⟨t.fType,t.fDims,t.fF.map canonF,t.fI,t.fB⟩
theorem wk_eq32{x:Int}(h0:0≤x)(h1:x<4294967296):wk .u32 x=x:=by
  have:wk .u32 x=x%4294967296:=by simp[wk,IntKind.wrap,IntKind.signed,IntKind.bits]
  rw[this,Int.emod_eq_of_lt h0 h1]
theorem abs_u32{x:Int}(h0:0≤x)(h1:x<4294967296):bandn .u32 x 2147483648=x%2147483648:=by
  unfold bandn
  rw[show IntKind.u32.bits=32 from rfl,show ~~~(BitVec.ofInt 32 2147483648)=BitVec.ofNat 32 (2 ^ 31 - 1)by decide,BitVec.toNat_and,BitVec.toNat_ofNat,BitVec.toNat_ofInt]
  have:(2 ^ 31 - 1)%2 ^ 32=2 ^ 31 - 1:=by decide
  rw[this,Nat.and_two_pow_sub_one_eq_mod]
  have hw:=wk_eq32 (x:=(((x%((2 ^ 32:Nat):Int)).toNat%2 ^ 31:Nat):Int)) (by omega) (by omega)
  unfold wk at hw
  rw[hw]
  omega
theorem softCanon_spec{fu:Nat}{x:Int}(h0:0≤x)(h1:x<4294967296):soft_Canon fu x=some (canonF x):=by
  unfold soft_Canon soft_NaN soft_Abs canonF
  rw[abs_u32 h0 h1,ob_some,ob_some]
  by_cases h:2139095040<x%2147483648 <;> simp[h]
def Ten(t:T_Tensor):Prop:=t.fDims.length*8<=140737488351232/\t.fF.length*4<=140737488351232/\t.fI.length*8<=140737488351232/\t.fB.length<=140737488351232/\ ∀ x ∈ t.fF,0<=x/\x<4294967296
theorem Ten.small{t:T_Tensor}(h:Ten t):Small t:=by obtain⟨a,b,c,d,_⟩:=h;exact⟨a,by omega,by omega,by omega⟩
theorem Copy_spec{fu:Nat}{t:T_Tensor}(h:Ten t):tens_Copy fu t=some t:=by
  obtain⟨h1,h2,h3,h4,_⟩:=h
  unfold tens_Copy tens_own_int tens_own_uint32 tens_own_int64 tens_own_bool
  rw[chk_pos (by omega),ob_some,chk_pos (by omega),ob_some,chk_pos (by omega),ob_some,chk_pos (by omega),ob_some]
theorem Canon_spec{fu:Nat}{t:T_Tensor}(h:Ten t)(hf:t.fF.length<fu):tens_Canon fu t=some (canonT t):=by
  have hu:=h.2.2.2.2
  have hl:=h.2.1
  unfold tens_Canon
  rw[Copy_spec h,ob_some]
  unfold tens_Canon.W1
  refine map_loop (f:=canonF) (c:=λm=>some (T_Tensor.mk t.fType t.fDims m t.fI t.fB)) hf ?_ ?_
  · intro next k m hk hm hg
    unfold tens_Canon.L1
    simp only[]
    obtain⟨u1,u2⟩:=hu _ (List.getElem_mem hk)
    rw[if_pos (by omega),at?_nat,hg,ob_some,softCanon_spec u1 u2,ob_some,chk_pos (by omega),wk_succ (by omega)]
    rfl
  · intro next m hm
    unfold tens_Canon.L1
    rw[if_neg (by simp)]
end Go.Av
set_option linter.unusedVariables false
namespace Go.Av
theorem drop_same{a b:List Int}{i:Nat}(ha:i<a.length)(hb:i<b.length):a.drop i=b.drop i ↔ a[i]=b[i]∧a.drop (i+1)=b.drop (i+1):=by
  rw[List.drop_eq_getElem_cons ha,List.drop_eq_getElem_cons hb]
  exact List.cons_eq_cons
theorem SameInts_spec{fu:Nat}{a b:List Int}(hl:Short a)(hf:a.length<fu):ref04_SameInts fu a b=some (decide (a=b)):=by
  unfold ref04_SameInts ref04_SameInts.W1
  by_cases hlen:a.length=b.length
  · rw [if_pos (by omega)]
    refine(cloop_ind (λ(i:Int)=>some (decide (a.drop i.toNat=b.drop i.toNat))) (λi=>0<=i/\i<=a.length) (λi=>a.length - i.toNat) ?_ fu 0 (by simp) (by simp;omega)).trans (by simp)
    rintro i ⟨h0,h1⟩ next hn
    obtain⟨k,rfl⟩:=Int.eq_ofNat_of_zero_le h0
    unfold ref04_SameInts.L1
    simp only[Int.toNat_natCast]
    by_cases hk:k<a.length
    · rw[if_pos (by omega),at?_get hk,ob_some,at?_get (by omega:k<b.length),ob_some,wk_succ (by unfold Short at hl;omega)]
      have hd:=drop_same hk (by omega:k<b.length)
      by_cases he:a[k]=b[k]
      · rw[if_pos he,hn _ (by omega) (by simp;omega)]
        simp[hd,he]
      · rw[if_neg he]
        simp[hd,he]
    · rw[if_neg (by omega)]
      have e1:a.drop k=b.drop k:=by rw[List.drop_of_length_le (by omega),List.drop_of_length_le (by omega)]
      simp[e1]
  · rw[if_neg (by omega)]
    have: ¬ a=b:=λh=>hlen (by rw[h])
    simp[this]
end Go.Av
set_option linter.unusedVariables false
namespace Go.Av
theorem same_loop{α:Type}[DecidableEq α]{a b:List α}(hl:a.length=b.length){fu:Nat}(hf:a.length<fu)(hs:a.length≤140737488355328){L:(Int→Option Bool)→Int→Option Bool}{c:Option Bool}
    (hL: ∀ nx i,L nx i=if i<(a.length:Int)then((at? a i).bind λx=>(at? b i).bind λy=>if x=y then(nx (wk .i64 (i+1)))else some false)else c):cloop L fu 0=if a=b then c else some false:=by
  refine(cloop_ind (λ(i:Int)=>if a.drop i.toNat=b.drop i.toNat then c else some false) (λi=>0<=i/\i<=a.length) (λi=>a.length - i.toNat) ?_ fu 0 (by simp) (by simp;omega)).trans (by simp)
  rintro i ⟨h0,h1⟩ next hn
  obtain⟨k,rfl⟩:=Int.eq_ofNat_of_zero_le h0
  rw[hL]
  simp only[Int.toNat_natCast]
  by_cases hk:k<a.length
  · have hkb:k<b.length:=by omega
    have hd:a.drop k=b.drop k ↔ a[k]=b[k]∧a.drop (k+1)=b.drop (k+1):=by
      rw[List.drop_eq_getElem_cons hk,List.drop_eq_getElem_cons hkb];exact List.cons_eq_cons
    rw[if_pos (by omega),at?_get hk,ob_some,at?_get hkb,ob_some,wk_succ (by omega)]
    by_cases he:a[k]=b[k]
    · rw[if_pos he,hn _ (by omega) (by simp;omega)]
      by_cases h2:a.drop (k+1)=b.drop (k+1)
      · rw[if_pos (by simpa using h2),if_pos (hd.2 ⟨he,h2⟩)]
      · rw[if_neg (by simpa using h2),if_neg (λh=>h2 (hd.1 h).2)]
    · rw[if_neg he,if_neg (λh=>he (hd.1 h).1)]
  · rw[if_neg (by omega),if_pos (by rw[List.drop_of_length_le (by omega),List.drop_of_length_le (by omega)])]
theorem refSame_spec{fu:Nat}{a b:T_Tensor}(hs:Small a)(hf:Fuel fu a):ref05_Same fu a b=some (sameT a b):=by
  obtain⟨s1,s2,s3,s4⟩:=hs
  obtain⟨f1,f2,f3,f4⟩:=hf
  unfold ref05_Same sameT;try unfold jn
  by_cases h1:a.fType=b.fType
  · rw [if_pos h1,SameInts_spec (by unfold Short;omega) f1,ob_some]
    by_cases h2:a.fDims=b.fDims
    · rw [if_pos (by simpa using h2)]
      by_cases l3:a.fF.length=b.fF.length
      · rw [if_pos (by omega)]
        by_cases l4:a.fI.length=b.fI.length
        · rw[if_pos (by omega)]
          by_cases l5:a.fB.length=b.fB.length
          · rw[if_pos (by omega)]
            unfold ref05_Same.k1 ref05_Same.W3;try unfold jn
            rw[same_loop (L:=λnext s=>ref05_Same.L3 fu a b next s) (a:=a.fF) (b:=b.fF) l3 f2 (by omega) (c:=ref05_Same.k2 fu a b) (λnx i=>rfl)]
            unfold ref05_Same.k2 ref05_Same.W2;try unfold jn
            rw[same_loop (L:=λnext s=>ref05_Same.L2 fu a b next s) (a:=a.fI) (b:=b.fI) l4 f3 (by omega) (c:=ref05_Same.k3 fu a b) (λnx i=>rfl)]
            unfold ref05_Same.k3 ref05_Same.W1
            rw[same_loop (L:=λnext s=>ref05_Same.L1 fu a b next s) (a:=a.fB) (b:=b.fB) l5 f4 (by omega) (c:=some true) (λnx i=>by unfold ref05_Same.L1;simp only[beq_iff_eq])]
            by_cases e3:a.fF=b.fF <;> by_cases e4:a.fI=b.fI <;> by_cases e5:a.fB=b.fB <;> simp[h1,h2,e3,e4,e5]
          · rw[if_neg (by omega)]
            have: ¬ a.fB=b.fB:=λh=>l5 (by rw[h])
            simp[this]
        · rw[if_neg (by omega)]
          have: ¬ a.fI=b.fI:=λh=>l4 (by rw[h])
          simp[this]
      · rw[if_neg (by omega)]
        have: ¬ a.fF=b.fF:=λh=>l3 (by rw[h])
        simp[this]
    · rw[if_neg (by simpa using h2)]
      simp[h2]
  · rw[if_neg h1]
    simp[h1]
end Go.Av
set_option linter.unusedVariables false
namespace Go.Av
theorem cloop_succ{σ β:Type}{body:(σ->Option β)->σ->Option β}{n:Nat}{s:σ}:cloop body (n+1) s=body (cloop body n) s:=rfl
def zeroVal:T_Val:=⟨0,[],false,⟨0,[],[],[],[]⟩⟩
def valOf(t:T_Tensor):T_Val:=if t.fType=0 then zeroVal else⟨t.fType,t.fDims,true,t⟩
def Tens(fu:Nat)(l:List T_Tensor):Prop:=l.length<=1048576/\l.length<fu/\ ∀ t ∈ l,Ten t/\Fuel fu t
theorem CloneI_spec{fu:Nat}{l:List Int}(h:l.length*8≤140737488351232):slices_Clone_int fu l=some l:=by
  unfold slices_Clone_int;rw[chk_pos (by omega)]
theorem take_next{α β:Type}{f:α→β}{l:List α}{k:Nat}(hk:k<l.length):(l.take (k+1)).map f=(l.take k).map f++[f l[k]]:=by
  rw[List.take_add_one,List.getElem?_eq_getElem hk,List.map_append];rfl
theorem Vals_all{fu:Nat}{l:List T_Tensor}(h:Tens fu l):ewise_Vals fu l=some (l.map valOf):=by
  unfold ewise_Vals ewise_Vals.W1
  have hl0:=h.1
  refine cloop_up l.length (λk=>(l.take k).map valOf) _ ?_ ?_ h.2.1
  · intro k hk next hn
    have ht:=(h.2.2 _ (List.getElem_mem hk)).1
    show ewise_Vals.L1 fu l _ _ (k:Int)=_
    have hl:((l.take k).map valOf).length=k:=by simp;omega
    rw[take_next hk]at hn
    rw[ewise_Vals.L1,if_pos (by omega),at?_get hk,ob_some,wk_succ (by omega)]
    by_cases h0:l[k].fType=0
    · rw[if_pos h0,chk_pos (by rw[hl];omega)]
      rw[valOf,if_pos h0]at hn
      exact hn
    · rw[if_neg h0,CloneI_spec ht.1,ob_some,Copy_spec ht,ob_some,chk_pos (by rw[hl];omega)]
      rw[valOf,if_neg h0]at hn
      exact hn
  · intro next
    show ewise_Vals.L1 fu l _ _ (l.length:Int)=_
    rw[ewise_Vals.L1,if_neg (by omega),List.take_length]
def badV:List T_Tensor→Option Int
  |[]=>none
  |t::l=>if t.fType=0∨checkV t=0 then badV l else some (checkV t)
theorem head_loop{β:Type}{fu:Nat}{l:List T_Tensor}(h:Tens fu l){k1:List T_Tensor→Option β}{er:Int→Option β}{L:(List T_Tensor→Int→Option β)→List T_Tensor→Int→Option β}
    (hL: ∀ nx acc i,L nx acc i=if i<(l.length:Int)then((at? l i).bind fun x=>if x.fType=0 then((tens_Canon fu x).bind fun y=>chk ((acc.length+1:Int)*104≤140737488355328)<|nx (acc++([y])) (wk .i64 (i+1)))else
      (tens_Check fu x).bind λc=>if c=0 then((tens_Canon fu x).bind λy=>chk ((acc.length+1:Int)*104<=140737488355328)<|nx (acc++([y])) (wk .i64 (i+1)))else er c)else k1 acc):
    cloop (λnext s=>L (λa b=>next (a,b)) s.1 s.2) fu (([]:List T_Tensor),(0:Int))=match badV l with|some e=>er e|none=>k1 (l.map canonT):=by
  have hl0:=h.1
  have key : ∀ m q k:Nat,l.length - k=m→k≤l.length→m<q→cloop (fun next s=>L (fun a b=>next (a,b)) s.1 s.2) q ((l.take k).map canonT,(k:Int))=match badV (l.drop k)with|some e=>er e|none=>k1 (l.map canonT):=by
    intro m
    induction m with
    | zero=>
      intro q k h1 h2 h3
      cases q with
      |zero=>omega
      | succ q=>
        have:k=l.length:=by omega
        subst this
        rw[cloop_succ]
        show L _ _ (l.length:Int)=_
        rw[hL,if_neg (by omega),List.take_length,List.drop_length]
        rfl
    | succ m ih=>
      intro q k h1 h2 h3
      cases q with
      |zero=>omega
      | succ q=>
        have hk:k<l.length:=by omega
        obtain⟨ht,hf⟩:=h.2.2 _ (List.getElem_mem hk)
        have hl:((l.take k).map canonT).length=k:=by simp;omega
        have hn:=ih q (k+1) (by omega) (by omega) (by omega)
        rw[take_next hk]at hn
        rw[cloop_succ]
        show L _ _ (k:Int)=_
        rw[hL,if_pos (by omega),at?_get hk,ob_some,wk_succ (by omega),List.drop_eq_getElem_cons hk]
        unfold badV
        by_cases h0:l[k].fType=0
        · rw[if_pos h0,Canon_spec ht hf.2.1,ob_some,chk_pos (by rw[hl];omega),if_pos (.inl h0)]
          exact hn
        · rw[if_neg h0,Check_spec ht.small hf,ob_some]
          by_cases hc:checkV l[k]=0
          · rw[if_pos hc,Canon_spec ht hf.2.1,ob_some,chk_pos (by rw[hl];omega),if_pos (.inr hc)]
            exact hn
          · rw[if_neg hc,if_neg (λhh=>hh.elim h0 hc)]
  exact key l.length fu 0 (by omega) (by omega) h.2.1
end Go.Av
set_option linter.unusedVariables false
namespace Go.Av
def newV(k:Int)(d:List Int):T_Tensor×Int:=
  if k=1∨k=7∨k=9 then(if Good d then(if k=1 then(⟨k,d,List.replicate (prod d).toNat 0,[],[]⟩,0)else if k=7 then(⟨k,d,[],List.replicate (prod d).toNat 0,[]⟩,0)else(⟨k,d,[],[],List.replicate (prod d).toNat false⟩,0))else(noT,errS d))else(noT,5)
theorem New_spec{fu:Nat}{k:Int}{d:List Int}(hd:Short d)(hf:d.length<fu):tens_New fu k d=some (newV k d):=by
  unfold tens_New newV
  rw[known_spec,ob_some,Size_spec hd hf,ob_some]
  by_cases hk:k=1∨k=7∨k=9
  · rw [if_pos (by simpa using hk),if_pos hk]
    simp only[sizeV]
    by_cases hg:Good d
    · simp only[if_pos hg,if_true]
      have h1:=prod_nonneg hg.2.1
      have h2:=hg.2.2
      have h3:=hg.1
      unfold slices_Clone_int
      rw[chk_pos (by omega),ob_some,chk_pos (by omega),chk_pos (by omega),chk_pos (by omega)]
      by_cases e1:k=1
      · rw[if_pos e1,if_pos e1]
      · rw[if_neg e1,if_neg e1]
        by_cases e2:k=7
        · rw[if_pos e2,if_pos e2]
        · rw[if_neg e2,if_neg e2]
    · simp only[if_neg hg]
      rw[if_neg (errS_ne d)]
      rfl
  · rw[if_neg (by simpa using hk),if_neg hk]
    rfl
end Go.Av
set_option linter.unusedVariables false
namespace Go.Av
theorem refSizeW_spec{fu:Nat}{l:List Int}(hp: ∀ x ∈ l,1≤x∧x≤4096)(hl:l.length≤8)(hf:l.length<fu):ref04_Size.W1 fu l 1 0=some (if prod l≤4096 then(prod l,0)else(0,4)):=by
  unfold ref04_Size.W1
  refine(cloop_ind (λ(s:Int×Int)=>some (if s.1*prod (l.drop s.2.toNat)<=4096 then(s.1*prod (l.drop s.2.toNat),0)else(0,4))) (λs=>0<=s.2/\s.2<=l.length/\1<=s.1/\s.1<=4096) (λs=>l.length - s.2.toNat) ?_ fu (1,0) (by simp) (by simp;omega)).trans (by simp)
  rintro⟨m,i⟩ ⟨h0,h1,h2,h3⟩ next hn
  simp only at h0 h1 h2 h3 hn ⊢
  obtain⟨k,rfl⟩:=Int.eq_ofNat_of_zero_le h0
  unfold ref04_Size.L1 ref04_Size.k2;try unfold jn
  simp only[Int.toNat_natCast]
  by_cases hk:k<l.length
  · obtain⟨q1,q2⟩:=hp _ (List.getElem_mem hk)
    have hge:1<=m*l[k]:=by have:=Int.mul_le_mul h2 q1 (by decide) (by omega);simpa using this
    have hle:m*l[k]<=4096*4096:=Int.mul_le_mul h3 q2 (by omega) (by decide)
    rw[if_pos (by omega),at?_get hk,ob_some,if_neg (by omega),ob_some,wk_eq (x:=m*l[k]) (by omega) (by omega),List.drop_eq_getElem_cons hk]
    have hpos:1<=prod (l.drop (k+1)):=prod_pos λx hx=>(hp x (List.mem_of_mem_drop hx)).1
    simp only[prod,← Int.mul_assoc]
    by_cases hd:4096<m*l[k]
    · rw[if_pos hd]
      have:m*l[k]*1<=m*l[k]*prod (l.drop (k+1)):=Int.mul_le_mul_of_nonneg_left hpos (by omega)
      rw[if_neg (by omega)]
    · rw[if_neg hd]
      rw[wk_succ (by omega),hn (m*l[k],((k+1:Nat):Int)) ⟨by simp only[];omega,by simp only[];omega,hge,by simp only[];omega⟩ (by simp;omega)]
      simp
  · rw[if_neg (by omega),List.drop_of_length_le (by omega)]
    simp only[prod,Int.mul_one]
    rw[if_pos h3]
theorem refSize_spec{fu:Nat}{l:List Int}(hl:Short l)(hf:l.length<fu):ref04_Size fu l=some (sizeV l):=by
  unfold ref04_Size ref04_Size.W2;try unfold jn
  refine(cloop_ind (λ(s:Bool×Bool×Int)=>cond ((l.drop s.2.2.toNat).any (λx=>decide (x<0))) (some (0,1)) (ref04_Size.k1 fu l (s.1 || (l.drop s.2.2.toNat).any (λx=>decide (x=0))) (s.2.1 || (l.drop s.2.2.toNat).any (λx=>decide (4096<x))))) (λs=>0<=s.2.2/\s.2.2<=l.length) (λs=>l.length - s.2.2.toNat) ?_ fu _ (by simp) (by simp;omega)).trans ?_
  · rintro⟨z,b,i⟩ ⟨h0,h1⟩ next hn
    simp only at h0 h1 hn ⊢
    obtain⟨k,rfl⟩:=Int.eq_ofNat_of_zero_le h0
    unfold ref04_Size.L2;try unfold jn
    simp only[Int.toNat_natCast]
    by_cases hk:k<l.length
    · rw [if_pos (by omega),at?_get hk,ob_some,List.drop_eq_getElem_cons hk]
      simp only[List.any_cons]
      by_cases h2:l[k]<0
      · rw[if_pos h2];simp[h2]
      · rw[if_neg h2]
        have hx:=λz' b'=>hn (z',b',((k+1:Nat):Int)) (by simp only[];omega) (by simp;omega)
        simp only[Int.toNat_natCast]at hx
        have hz:(if z=true then ref04_Size.k3 fu (fun x13 x14 x15=>next (x13,x14,x15)) b (k:Int) l[k] true else ref04_Size.k3 fu (fun x13 x14 x15=>next (x13,x14,x15)) b (k:Int) l[k] (decide (l[k]=0)))=next (z || decide (l[k]=0),b || decide (4096<l[k]),wk .i64 ((k:Int)+1)):=by
          unfold ref04_Size.k3
          cases z <;> cases b <;> simp
        rw[hz,wk_succ (by unfold Short at hl;omega),hx]
        simp only[Bool.or_assoc]
        simp[h2]
    · rw[if_neg (by omega),List.drop_of_length_le (by omega)]
      simp
  · simp only[Int.toNat_zero,List.drop_zero,Bool.false_or]
    by_cases h1:l.any (λx=>decide (x<0))=true
    · rw[h1,cond_true]
      have hg: ¬ Good l:=fun hg=>by
        obtain⟨x,hx,hx2⟩:=List.any_eq_true.1 h1
        have:=(hg.2.1 x hx).1
        simp at hx2;omega
      simp only[sizeV,if_neg hg,errS,if_pos h1]
    have h1':l.any (λx=>decide (x<0))=false:=by simpa using h1
    rw[h1',cond_false]
    have he:errS l=4:=by simp only[errS,if_neg h1]
    unfold ref04_Size.k1
    by_cases h2:(decide (8<(l.length:Int)) || l.any λx=>decide (4096<x))=true
    · rw [if_pos h2]
      have hg: ¬ Good l:=fun hg=>by
        rcases Bool.or_eq_true_iff.1 h2 with h3|h3
        · have:=hg.1;simp at h3;omega
        · obtain⟨x,hx,hx2⟩:=List.any_eq_true.1 h3
          have:=(hg.2.1 x hx).2
          simp at hx2;omega
      simp only[sizeV,if_neg hg,he]
    rw[if_neg h2]
    simp only[Bool.or_eq_true,decide_eq_true_eq,List.any_eq_true,not_or,not_exists,not_and]at h1 h2
    have hr:Rng l:=λx hx=>by have:=h1 x hx;have:=h2.2 x hx;omega
    by_cases h4:(l.any λx=>decide (x=0))=true
    · rw[if_pos h4]
      have hz:(0:Int) ∈ l:=by
        obtain⟨x,hx,hx2⟩:=List.any_eq_true.1 h4
        simp at hx2;subst hx2;exact hx
      have hg:Good l:=⟨by omega,hr,by rw[prod_zero hz];decide⟩
      simp only[sizeV,if_pos hg,prod_zero hz]
    rw[if_neg h4]
    have hp: ∀ x ∈ l,1≤x∧x≤4096:=fun x hx=>by
      have:=hr x hx
      simp only[List.any_eq_true,decide_eq_true_eq,not_exists,not_and]at h4
      have:=h4 x hx;omega
    rw[refSizeW_spec hp (by omega) hf]
    by_cases h5:prod l<=4096
    · have hg:Good l:=⟨by omega,hr,h5⟩
      simp only[sizeV,if_pos hg,if_pos h5]
    · have hg: ¬ Good l:=fun hg=>h5 hg.2.2
      simp only[sizeV,if_neg hg,if_neg h5,he]
theorem refKnown_spec{fu:Nat}{k:Int}:ref05_Known fu k=some (decide (k=1∨k=7∨k=9)):=by
  unfold ref05_Known
  by_cases h1:k=1
  · simp[h1]
  · by_cases h2:k=7
    · simp[h2]
    · by_cases h3:k=9 <;> simp[h1,h2,h3]
theorem refCheck_spec{fu:Nat}{t:T_Tensor}(hs:Small t)(hf:Fuel fu t):ref05_Check fu t=some (checkV t):=by
  obtain⟨s1,s2,s3,s4⟩:=hs
  unfold ref05_Check checkV;try unfold jn
  rw[refKnown_spec,ob_some,refSize_spec (by unfold Short;omega) hf.1]
  by_cases hk:Known t.fType
  · rw [if_pos (by simpa[Known]using hk),ob_some,if_pos hk]
    simp only[sizeV]
    by_cases hg:Good t.fDims
    · simp only[if_pos hg,if_true]
      unfold ref05_Check.k1 LensOK
      have key: ∀ a b c:Int,(if(t.fF.length:Int)=a then(if(t.fI.length:Int)=b then(if(t.fB.length:Int)=c then(some 0:Option Int)else some 3)else some 3)else some 3)=some (if(t.fF.length:Int)=a∧(t.fI.length:Int)=b∧(t.fB.length:Int)=c then 0 else 3):=fun a b c=>by
        by_cases h1:(t.fF.length:Int)=a <;> by_cases h2:(t.fI.length:Int)=b <;> by_cases h3:(t.fB.length:Int)=c <;> simp[h1,h2,h3]
      rcases hk with e|e|e
      · simp only[e,show ¬ (1:Int)=7 by decide,show ¬ (1:Int)=9 by decide,if_false,if_true,key]
      · simp only[e,show ¬ (7:Int)=1 by decide,show ¬ (7:Int)=9 by decide,if_false,if_true,key]
      · simp only[e,show ¬ (9:Int)=1 by decide,show ¬ (9:Int)=7 by decide,if_false,if_true,key]
    · simp only[if_neg hg]
      rw[if_neg (errS_ne _)]
  · rw[if_neg (by simpa[Known]using hk),if_neg hk]
end Go.Av
set_option linter.unusedVariables false
namespace Go.Av
def axisV(a:Int)(n:Nat):Option Int:=if 0<=a then(if a<n then some a else none)else if -(n:Int)<=a then some (n+a)else none
theorem Axis_spec{fu:Nat}{a:Int}{n:Nat}(hn:n≤100):shape_Axis fu a (n:Int)=some (match axisV a n with|some k=>(k,0)|none=>(0,2)):=by
  unfold shape_Axis axisV
  rw[if_neg (by omega),wk_eq (x:=0 - (n:Int)) (by omega) (by omega)]
  by_cases h:0<=a
  · rw[if_pos h,if_pos h]
    by_cases h1:a<n
    · rw[if_pos h1,if_pos h1]
    · rw[if_neg h1,if_neg h1]
  · rw[if_neg h,if_neg h]
    by_cases h1:0 - (n:Int)<=a
    · rw[if_pos h1,if_pos (show -(n:Int)<=a by omega),wk_eq (by omega) (by omega)]
    · rw[if_neg h1,if_neg (show ¬ -(n:Int)<=a by omega)]
theorem axisV_rng{a:Int}{n:Nat}{k:Int}(h:axisV a n=some k):0≤k∧k<n:=by
  unfold axisV at h
  split at h
  · split at h
    · injection h with h;omega
    · cases h
  · split at h
    · injection h with h;omega
    · cases h
section
variable {fu:Nat}
end
def axesV(n:Nat):List Int→List Bool→Bool→List Bool×Int
  |[],m,tw=>if tw=true then([],1)else(m,0)
  | a::l,m,tw=>match axisV a n with
    |some k=>axesV n l (m.set k.toNat true) (tw || m.getD k.toNat false)
    |none=>([],2)
theorem Axes_spec{fu:Nat}{p:List Int}{n:Nat}(hn:n≤8)(hl:p.length≤140737488351232)(hf:p.length<fu):shape_Axes fu p (n:Int)=some (axesV n p (List.replicate n false) false):=by
  unfold shape_Axes jn
  rw[if_neg (by omega),if_neg (by omega)]
  unfold shape_Axes.k1 jn
  rw[chk_pos (by omega),Int.toNat_natCast]
  unfold shape_Axes.W1
  refine(cloop_ind (λ(s:List Bool×Bool×Int)=>some (axesV n (p.drop s.2.2.toNat) s.1 s.2.1)) (λs=>0<=s.2.2/\s.2.2<=p.length/\s.1.length=n) (λs=>p.length - s.2.2.toNat) ?_ fu _ (by simp) (by simp;omega)).trans (by simp)
  rintro⟨m,tw,i⟩ ⟨h0,h1,h2⟩ next hn2
  simp only at h0 h1 h2 hn2 ⊢
  obtain⟨k,rfl⟩:=Int.eq_ofNat_of_zero_le h0
  unfold shape_Axes.L1
  simp only[Int.toNat_natCast]
  by_cases hk:k<p.length
  · rw [if_pos (by omega),at?_get hk,ob_some,Axis_spec (by omega),ob_some,List.drop_eq_getElem_cons hk,wk_succ (by omega)]
    conv=>rhs;unfold axesV
    cases hv:axisV p[k] n with
    |none=>simp only;rw[if_neg (by decide)]
    | some a=>
      obtain⟨a0,a1⟩:=axisV_rng hv
      simp only
      rw[if_pos trivial]
      have hn3:=λb=>hn2 (m.set a.toNat true,b,((k+1:Nat):Int)) ⟨by simp only[];omega,by simp only[];omega,by simp[h2]⟩ (by simp;omega)
      simp only[Int.toNat_natCast]at hn3
      obtain⟨j,rfl⟩:=Int.eq_ofNat_of_zero_le a0
      cases tw with
      |true=>rw[if_pos rfl,chk_pos (by omega),hn3,Bool.true_or]
      | false=>
        rw[if_neg (by decide),at?_get (by omega),ob_some,chk_pos (by omega),hn3,Bool.false_or,Int.toNat_natCast,List.getD_eq_getElem?_getD,List.getElem?_eq_getElem (by omega)]
        rfl
  · rw[if_neg (by omega),List.drop_of_length_le (by omega)]
    unfold shape_Axes.k2 axesV
    cases tw <;> rfl
end Go.Av
set_option linter.unusedVariables false
namespace Go.Av
def seqI(n:Nat):List Int:=(List.range n).map λi:Nat=>(i:Int)
theorem seqI_length{n:Nat}:(seqI n).length=n:=by simp[seqI]
theorem seqI_succ{n:Nat}:seqI (n+1)=seqI n++[(n:Int)]:=by simp[seqI,List.range_succ]
theorem seqI_get{n i:Nat}(h:i<n):at? (seqI n) (i:Int)=some (i:Int):=by
  rw[at?_nat];simp[seqI,h]
theorem good_n{n:Nat}(hn:n<=4096):Good [(n:Int)]:=⟨by simp,λz hz=>by simp at hz;omega,by simp[prod];omega⟩
def setR:T_Setting:=T_Setting.mk 0 ([]) false false false false false ([]) false 0 0 0 false false false 0 0 false false 0 ([]) ([]) ([]) ([]) 0 false false 0 0 0 false (T_Tensor.mk 0 ([]) ([]) ([]) ([]))
def outV(k:Int)(d:List Int):T_Val:=⟨k,d,false,⟨0,[],[],[],[]⟩⟩
section
variable {fu n:Nat}
theorem axes_0(hf:20<fu):shape_Axes fu [] 1=some ([false],0):=Axes_spec (p:=[]) (n:=1) (by omega) (by simp) (by simp;omega)
theorem places_0:reduce_places (fu+1) [] []=some [0]:=rfl
theorem places_1(hn:n≤4096)(hf:5000<fu):reduce_places fu [(n:Int)] [1]=some (seqI n):=by
  obtain⟨f,rfl⟩: ∃ f,fu=f+2:=⟨fu - 2,by omega⟩
  unfold reduce_places reduce_places.W1
  rw[cloop_succ]
  show reduce_places.L1 (f+2) [(n:Int)] [1] _ [0] 0=_
  rw[reduce_places.L1,if_pos (by simp)]
  show(some (n:Int)).bind _=_
  rw[ob_some]
  unfold reduce_places.W2
  rw[cloop_succ]
  show reduce_places.L2 (f+2) _ [1] [0] 0 (n:Int) _ [] 0=_
  rw[reduce_places.L2,if_pos (by simp)]
  show(some (0:Int)).bind _=_
  rw[ob_some]
  unfold reduce_places.W3
  refine cloop_up n (λi:Nat=>seqI i) _ ?_ ?_ (by omega)
  · intro k hk next hn2
    show reduce_places.L3 (f+2) _ [1] 0 (n:Int) 0 0 _ (seqI k) (k:Int)=_
    rw[reduce_places.L3,if_pos (by omega)]
    show(some (1:Int)).bind _=_
    rw[ob_some,seqI_length,chk_pos (by omega),wk_succ (by omega),wk_eq (x:=(k:Int)*1) (by omega) (by omega),wk_eq (by omega) (by omega)]
    rw[seqI_succ]at hn2
    rw[show(0:Int)+(k:Int)*1=k by omega]
    exact hn2
  · intro next
    show reduce_places.L3 (f+2) _ [1] 0 (n:Int) 0 0 _ (seqI n) (n:Int)=_
    rw[reduce_places.L3,if_neg (by omega)]
    rw[cloop_succ]
    show reduce_places.L2 (f+2) _ [1] [0] 0 (n:Int) _ (seqI n) 1=_
    rw[reduce_places.L2,if_neg (by simp)]
    rw[cloop_succ]
    show reduce_places.L1 (f+2) [(n:Int)] [1] _ (seqI n) 1=_
    rw[reduce_places.L1,if_neg (by simp)]
theorem row_id(hn:n≤4096):rowL (seqI n) 0=seqI n:=by
  unfold rowL
  refine List.ext_getElem (by simp) λk h1 h2=> ?_
  simp only[seqI,List.map_map,List.getElem_map,List.getElem_range,Function.comp]
  simp[seqI]at h2
  rw[wk_eq (by omega) (by omega)];omega
theorem rows_1(hn:n≤4096)(hf:5000<fu):reduce_rowsIt fu [] [] (seqI n)=some [(0,seqI n)]:=by
  obtain⟨f,rfl⟩: ∃ f,fu=f+1:=⟨fu - 1,by omega⟩
  unfold reduce_rowsIt
  rw[places_0,ob_some,chk_pos (by rw[seqI_length];simp;omega)]
  simp only[rowsL,row_id hn]
  rfl
theorem strides_1(hn:n≤4096)(hf:5000<fu):shape_Strides fu [(n:Int)]=some ([1],0):=by
  unfold shape_Strides
  rw[Size_spec (by simp[Short]) (by show 1<fu;omega),ob_some,sizeV,if_pos (good_n hn),if_pos rfl,strides_spec (by simp) (by show 1<fu;omega)]
  rfl
theorem at32_all{l:List Int}(hn:l.length≤4096)(hf:5000<fu):reduce_at_uint32 fu l (seqI l.length)=some l:=by
  unfold reduce_at_uint32 reduce_at_uint32.W1
  refine cloop_up (body:=λnext s=>reduce_at_uint32.L1 fu l (seqI l.length) (λx5 x6=>next (x5,x6)) s.1 s.2) l.length (λi:Nat=>l.take i) _ ?_ ?_ (by omega)
  · intro k hk next hn2
    show reduce_at_uint32.L1 fu l (seqI l.length) _ (l.take k) (k:Int)=_
    have e:l.take (k+1)=l.take k++[l[k]]:=by rw[List.take_add_one,List.getElem?_eq_getElem hk];rfl
    rw[e]at hn2
    unfold reduce_at_uint32.L1
    rw[if_pos (by rw[seqI_length];omega),seqI_get hk,ob_some,at?_get hk,ob_some,chk_pos (by simp;omega),wk_succ (by omega)]
    exact hn2
  · intro next
    show reduce_at_uint32.L1 fu l (seqI l.length) _ (l.take l.length) (l.length:Int)=_
    unfold reduce_at_uint32.L1
    rw[if_neg (by rw[seqI_length];omega),List.take_length]
theorem at64_all{l:List Int}(hn:l.length≤4096)(hf:5000<fu):reduce_at_int64 fu l (seqI l.length)=some l:=by
  unfold reduce_at_int64 reduce_at_int64.W1
  refine cloop_up (body:=λnext s=>reduce_at_int64.L1 fu l (seqI l.length) (λx5 x6=>next (x5,x6)) s.1 s.2) l.length (λi:Nat=>l.take i) _ ?_ ?_ (by omega)
  · intro k hk next hn2
    show reduce_at_int64.L1 fu l (seqI l.length) _ (l.take k) (k:Int)=_
    have e:l.take (k+1)=l.take k++[l[k]]:=by rw[List.take_add_one,List.getElem?_eq_getElem hk];rfl
    rw[e]at hn2
    unfold reduce_at_int64.L1
    rw[if_pos (by rw[seqI_length];omega),seqI_get hk,ob_some,at?_get hk,ob_some,chk_pos (by simp;omega),wk_succ (by omega)]
    exact hn2
  · intro next
    show reduce_at_int64.L1 fu l (seqI l.length) _ (l.take l.length) (l.length:Int)=_
    unfold reduce_at_int64.L1
    rw[if_neg (by rw[seqI_length];omega),List.take_length]
end
theorem width_k{fu:Nat}{k:Int}(h:Known k): ∃ w,tens_Width fu k=some w∧0<w:=by
  unfold tens_Width
  rcases h with rfl|rfl|rfl
  · exact⟨4,rfl,by decide⟩
  · exact⟨8,rfl,by decide⟩
  · exact⟨1,rfl,by decide⟩
section
variable {fu n:Nat} {v:T_Val}
theorem has_67:infer_ask_has fu ⟨67,setR,[v],1⟩ 0=some (!(decide (v.fType=0))):=rfl
theorem val_67:infer_ask_val fu ⟨67,setR,[v],1⟩ 0=some v:=rfl
theorem complete_67(h0:v.fType≠0):infer_ask_complete (fu+2) ⟨67,setR,[v],1⟩=some true:=by
  have h:infer_ask_complete (fu+2) ⟨67,setR,[v],1⟩=infer_ask_complete.W1 (fu+2) ⟨67,setR,[v],1⟩ (1,1,1,1) 0:=rfl
  rw[h]
  unfold infer_ask_complete.W1
  rw[cloop_succ,infer_ask_complete.L1,if_pos (by decide)]
  show(infer_ask_has (fu+2) ⟨67,setR,[v],1⟩ 0).bind _=_
  rw[has_67,ob_some,if_pos (by simp[h0]),cloop_succ,show wk .i64 (0+1)=1 from rfl,infer_ask_complete.L1,if_neg (by decide)]
theorem typed_67(h0:Known v.fType):infer_ask_typed (fu+2) ⟨67,setR,[v],1⟩=some (decide (v.fType≠9)):=by
  obtain⟨w,hw,hw0⟩:=width_k (fu:=fu+2) h0
  have hv0:v.fType≠0:=by rcases h0 with e|e|e <;> rw[e] <;> decide
  have h:infer_ask_typed (fu+2) ⟨67,setR,[v],1⟩=infer_ask_typed.W1 (fu+2) ⟨67,setR,[v],1⟩ ⟨#[110]⟩ 0:=rfl
  rw[h]
  unfold infer_ask_typed.W1
  rw[cloop_succ,infer_ask_typed.L1,if_pos (by simp)]
  show(infer_ask_has (fu+2) ⟨67,setR,[v],1⟩ 0).bind _=_
  rw[has_67,ob_some,if_pos (by simp[hv0])]
  show(infer_ask_val (fu+2) ⟨67,setR,[v],1⟩ 0).bind _=_
  rw[val_67,ob_some,hw,ob_some,if_neg (by omega)]
  show(some 110:Option Int).bind _=_
  rw[ob_some]
  have hf:infer_ask_fits (fu+2) ⟨67,setR,[v],1⟩ 0 110=if v.fType=1 then some true else some (decide (v.fType=7)):=rfl
  show(infer_ask_fits (fu+2) ⟨67,setR,[v],1⟩ 0 110).bind _=_
  rw[hf]
  have hend:infer_ask_typed.L1 (fu+2) ⟨67,setR,[v],1⟩ ⟨#[110]⟩ (cloop (fun next s=>infer_ask_typed.L1 (fu+2) ⟨67,setR,[v],1⟩ ⟨#[110]⟩ next s) fu) 1=some true:=by
    rw[infer_ask_typed.L1,if_neg (by simp)];rfl
  rcases h0 with e|e|e
  · rw[e,if_pos rfl,ob_some,if_pos rfl,cloop_succ,show wk .i64 (0+1)=1 from rfl,hend];rfl
  · rw[e,if_neg (by decide),ob_some,if_pos (by decide),cloop_succ,show wk .i64 (0+1)=1 from rfl,hend];rfl
  · rw[e,if_neg (by decide),ob_some,if_neg (by decide)];rfl
theorem attr_67(hd:v.fDims=[(n:Int)])(hf:20<fu):infer_ask_attributes fu ⟨67,setR,[v],1⟩=some true:=by
  have h:infer_ask_attributes fu ⟨67,setR,[v],1⟩=(shape_Axes fu [] (v.fDims.length:Int)).bind λx3=>some (decide (x3.2=0)):=rfl
  rw[h,hd]
  show(shape_Axes fu [] 1).bind _=_
  rw[axes_0 hf]
  rfl
theorem told_67:infer_ask_told (fu+4) ⟨67,setR,[v],1⟩=some 0:=rfl
theorem wrong_67(h0:Known v.fType)(hd:v.fDims=[(n:Int)])(hn:n≤4096)(hf:40<fu):infer_ask_wrong (fu+4) ⟨67,setR,[v],1⟩=some (if v.fType=9 then 5 else 0):=by
  have hg:=good_n hn
  have hv0:v.fType≠0:=by rcases h0 with e|e|e <;> rw[e] <;> decide
  have h:infer_ask_wrong (fu+4) ⟨67,setR,[v],1⟩=infer_ask_wrong.W1 (fu+4) ⟨67,setR,[v],1⟩ 0:=rfl
  rw[h]
  unfold infer_ask_wrong.W1
  rw[cloop_succ,infer_ask_wrong.L1,if_pos (by simp)]
  show(some v).bind _=_
  rw[ob_some,hd,Size_spec (by simp[Short]) (by show 1<fu+4;omega),ob_some]
  show(infer_ask_has (fu+4) ⟨67,setR,[v],1⟩ 0).bind _=_
  rw[has_67,ob_some,if_pos (by simp[hv0]),sizeV,if_pos hg,if_pos rfl,cloop_succ,show wk .i64 (0+1)=1 from rfl,infer_ask_wrong.L1,if_neg (by simp)]
  have e:infer_ask_wrong.k1 (fu+4) ⟨67,setR,[v],1⟩=(infer_ask_typed (fu+4) ⟨67,setR,[v],1⟩).bind λx2=>if x2=true then((infer_ask_attributes (fu+4) ⟨67,setR,[v],1⟩).bind λx3=>if x3=true then((infer_ask_told (fu+4) ⟨67,setR,[v],1⟩).bind λx4=>some x4)else some 14)else some 5:=rfl
  rw[e,typed_67 (fu:=fu+2) h0,ob_some]
  by_cases h9:v.fType=9
  · rw[if_neg (by simp[h9]),if_pos h9]
  · rw[if_pos (by simp[h9]),attr_67 hd (by omega),ob_some,if_pos rfl,told_67,ob_some,if_neg h9]
theorem over_67(hd:v.fDims=[(n:Int)])(hf:40<fu):infer_ask_over (fu+4) ⟨67,setR,[v],1⟩=some ([true],0):=by
  have h:infer_ask_over (fu+4) ⟨67,setR,[v],1⟩=(shape_Axes (fu+4) [] (v.fDims.length:Int)).bind λx3=>infer_ask_over.W1 (fu+4) x3 x3.1 0:=rfl
  rw[h,hd]
  show(shape_Axes (fu+4) [] 1).bind _=_
  rw[axes_0 (by omega)]
  rfl
theorem reduced_67(hd:v.fDims=[(n:Int)])(hf:40<fu):infer_ask_reduced (fu+4) ⟨67,setR,[v],1⟩=some (if n=0 then([],3)else([[]],0)):=by
  have h:infer_ask_reduced (fu+4) ⟨67,setR,[v],1⟩=(infer_ask_over (fu+4) ⟨67,setR,[v],1⟩).bind λx2=>if x2.2=0 then infer_ask_reduced.W1 (fu+4) x2 v.fDims false ([]:List Int) 0 else(infer_misfit (fu+4)).bind λx19=>some (x19.1,x19.2):=rfl
  rw[h,over_67 hd hf,ob_some,if_pos rfl,hd]
  unfold infer_ask_reduced.W1
  rw[cloop_succ]
  show infer_ask_reduced.L1 (fu+4) ([true],0) [(n:Int)] _ false [] 0=_
  rw[infer_ask_reduced.L1,if_pos (by simp)]
  show(some (n:Int)).bind _=_
  rw[ob_some]
  show(some true).bind _=_
  rw[ob_some,if_pos rfl]
  by_cases h0:n=0
  · subst h0
    rw[if_pos (by simp),if_pos rfl];rfl
  · rw[if_neg (by omega),if_neg h0,if_neg (by simp),cloop_succ]
    rfl
theorem Node_67(h0:Known v.fType)(hd:v.fDims=[(n:Int)])(hn:n≤4096)(hf:100<fu):infer_Node (fu+4) 67 setR [v] 1=some (if v.fType=9 then([],5)else if n=0 then([],3)else([outV v.fType []],0)):=by
  have hv0:v.fType≠0:=by rcases h0 with e|e|e <;> rw[e] <;> decide
  have h:infer_Node (fu+4) 67 setR [v] 1=(infer_ask_complete (fu+4) ⟨67,setR,[v],1⟩).bind fun x5=>if x5=true then((infer_ask_wrong (fu+4) ⟨67,setR,[v],1⟩).bind fun x6=>if x6=0 then
    ((((infer_ask_reduced (fu+4) ⟨67,setR,[v],1⟩).bind λx3=>some (x3.1,x3.2))).bind λx7=>if x7.2=0 then(infer_Node.W1 (fu+4) setR [v] 1 x7 ([]:List T_Val) 0)else some ([],x7.2))else some ([],x6))else some ([],1):=rfl
  rw[h,complete_67 (fu:=fu+2) hv0,ob_some,if_pos rfl,wrong_67 h0 hd hn (by omega),ob_some]
  by_cases h9:v.fType=9
  · rw[if_pos h9,if_pos h9,if_neg (by decide)]
  rw[if_neg h9,if_neg h9,if_pos rfl,reduced_67 hd (by omega),ob_some,ob_some]
  by_cases hn0:n=0
  · rw[if_pos hn0,if_pos hn0,if_neg (by decide)]
  rw[if_neg hn0,if_neg hn0,if_pos rfl]
  unfold infer_Node.W1
  rw[cloop_succ]
  show infer_Node.L1 (fu+4) setR [v] 1 ([[]],0) _ [] 0=_
  rw[infer_Node.L1,if_pos (show(0:Int)<((([[]],0):List (List Int)×Int).1.length:Int)by simp)]
  show(some ([]:List Int)).bind _=_
  have ho:infer_ask_out (fu+4) (T_infer_ask.mk 67 setR [v] 1)=some v.fType:=rfl
  have hs:shape_Size (fu+4) []=some (1,0):=(Size_spec (by simp[Short]) (by simp)).trans (by unfold sizeV;rw[if_pos ⟨by simp,(by intro z hz;cases hz),by simp[prod]⟩];rfl)
  rw[ob_some,hs,ob_some,if_pos rfl,ho,ob_some,Clone_spec (by simp),ob_some,chk_pos (by simp),cloop_succ]
  rfl
theorem work_67{c o:T_Tensor}(hd:c.fDims=[(n:Int)])(hf:40<fu):reduce_work_over (fu+4) ⟨67,setR,[c],c,o⟩=some [true]:=by
  have h:reduce_work_over (fu+4) ⟨67,setR,[c],c,o⟩=(shape_Axes (fu+4) [] (c.fDims.length:Int)).bind λx3=>reduce_work_over.W1 (fu+4) x3 x3.1 0:=rfl
  rw[h,hd]
  show(shape_Axes (fu+4) [] 1).bind _=_
  rw[axes_0 (by omega)]
  rfl
theorem head_67{t:T_Tensor}(ht:Ten t)(hft:Fuel (fu+4) t)(hc:checkV t=0)(hd:t.fDims=[(n:Int)])(hn:n≤4096)(hf:6000<fu):reduce_Do (fu+4) 67 setR [t]=
    if t.fType=9 then some (noT,5)else if n=0 then some (noT,3)else reduce_Do.k2 (fu+4) (canonT t) (newV t.fType []) [(n:Int)] [] [1] []:=by
  obtain⟨hkn,_,_⟩:=checkV_zero.1 hc
  have h0:t.fType≠0:=by rcases hkn with e|e|e <;> rw[e] <;> decide
  have hT:Tens (fu+4) [t]:=⟨by simp,by show 1<fu+4;omega,fun z hz=>by
    simp at hz;subst hz;exact⟨ht,hft⟩⟩
  have e:reduce_Do (fu+4) 67 setR [t]=reduce_Do.W2 (fu+4) setR [t] [] 0:=rfl
  have hb:badV [t]=none:=by unfold badV;rw[if_pos (.inr hc)];rfl
  rw[e]
  unfold reduce_Do.W2
  rw[head_loop hT (L:=reduce_Do.L2 (fu+4) setR [t]) (k1:=reduce_Do.k1 (fu+4) setR [t]) (er:=λe=>some (noT,e)) (λnx acc i=>rfl),hb]
  show reduce_Do.k1 (fu+4) setR [t] [canonT t]=_
  unfold reduce_Do.k1
  rw[Vals_all hT,ob_some]
  have hv:valOf t=⟨t.fType,t.fDims,true,t⟩:=if_neg h0
  show(infer_Node (fu+4) 67 setR [valOf t] 1).bind _=_
  rw[Node_67 (n:=n) (by rw[hv];exact hkn) (by rw[hv];exact hd) hn (by omega),ob_some,hv]
  show(if(if t.fType=9 then(([],5):List T_Val×Int)else if n=0 then([],3)else([outV t.fType []],0)).2=0 then _ else _)=_
  by_cases h9:t.fType=9
  · rw[if_pos h9,if_pos h9,if_neg (by decide)];rfl
  rw[if_neg h9,if_neg h9]
  by_cases hn0:n=0
  · rw[if_pos hn0,if_pos hn0,if_neg (by decide)];rfl
  rw[if_neg hn0,if_neg hn0,if_pos rfl]
  show(some (canonT t)).bind _=_
  rw[ob_some]
  show(some (outV t.fType [])).bind _=_
  rw[ob_some]
  show(tens_New (fu+4) t.fType []).bind _=_
  rw[New_spec (by simp[Short]) (by simp),ob_some,work_67 (c:=canonT t) (n:=n) hd (by omega),ob_some]
  show(shape_Strides (fu+4) t.fDims).bind _=_
  rw[hd,strides_1 hn (by omega),ob_some]
  unfold jn reduce_Do.W1
  rw[cloop_succ]
  show reduce_Do.L1 (fu+4) (canonT t) (newV t.fType []) [true] ([1],0) _ [] [] [] [] 0=_
  unfold reduce_Do.L1
  have hcd:(canonT t).fDims=[(n:Int)]:=hd
  rw[hcd,if_pos (show(0:Int)<((([(n:Int)]:List Int).length:Nat):Int)by simp)]
  show(some (n:Int)).bind _=_
  rw[ob_some]
  show(some true).bind _=_
  rw[ob_some,if_pos rfl,chk_pos (by simp)]
  show(some (1:Int)).bind _=_
  rw[ob_some,chk_pos (by simp)]
  show cloop _ (fu+3) ([(n:Int)],[],[1],[],1)=_
  rw[cloop_succ]
  dsimp only
  rw[if_neg (show ¬ (1:Int)<((([(n:Int)]:List Int).length:Nat):Int)by simp)]
end
section
variable {fu n:Nat} {v:T_Val}
theorem has_68:infer_ask_has fu ⟨68,setR,[v],1⟩ 0=some (!(decide (v.fType=0))):=rfl
theorem val_68:infer_ask_val fu ⟨68,setR,[v],1⟩ 0=some v:=rfl
theorem complete_68(h0:v.fType≠0):infer_ask_complete (fu+2) ⟨68,setR,[v],1⟩=some true:=by
  have h:infer_ask_complete (fu+2) ⟨68,setR,[v],1⟩=infer_ask_complete.W2 (fu+2) ⟨68,setR,[v],1⟩ (1,1,1,1) 0:=rfl
  rw[h]
  unfold infer_ask_complete.W2
  rw[cloop_succ,infer_ask_complete.L2,if_pos (by decide)]
  show(infer_ask_has (fu+2) ⟨68,setR,[v],1⟩ 0).bind _=_
  rw[has_68,ob_some,if_pos (by simp[h0]),cloop_succ,show wk .i64 (0+1)=1 from rfl,infer_ask_complete.L2,if_neg (by decide)]
theorem typed_68(h0:Known v.fType):infer_ask_typed (fu+2) ⟨68,setR,[v],1⟩=some (decide (v.fType≠9)):=by
  obtain⟨w,hw,hw0⟩:=width_k (fu:=fu+2) h0
  have hv0:v.fType≠0:=by rcases h0 with e|e|e <;> rw[e] <;> decide
  have h:infer_ask_typed (fu+2) ⟨68,setR,[v],1⟩=infer_ask_typed.W2 (fu+2) ⟨68,setR,[v],1⟩ ⟨#[110]⟩ 0:=rfl
  rw[h]
  unfold infer_ask_typed.W2
  rw[cloop_succ,infer_ask_typed.L2,if_pos (by simp)]
  show(infer_ask_has (fu+2) ⟨68,setR,[v],1⟩ 0).bind _=_
  rw[has_68,ob_some,if_pos (by simp[hv0])]
  show(infer_ask_val (fu+2) ⟨68,setR,[v],1⟩ 0).bind _=_
  rw[val_68,ob_some,hw,ob_some,if_neg (by omega)]
  show(some 110:Option Int).bind _=_
  rw[ob_some]
  have hf:infer_ask_fits (fu+2) ⟨68,setR,[v],1⟩ 0 110=if v.fType=1 then some true else some (decide (v.fType=7)):=rfl
  show(infer_ask_fits (fu+2) ⟨68,setR,[v],1⟩ 0 110).bind _=_
  rw[hf]
  have hend:infer_ask_typed.L2 (fu+2) ⟨68,setR,[v],1⟩ ⟨#[110]⟩ (cloop (fun next s=>infer_ask_typed.L2 (fu+2) ⟨68,setR,[v],1⟩ ⟨#[110]⟩ next s) fu) 1=some true:=by
    rw[infer_ask_typed.L2,if_neg (by simp)];rfl
  rcases h0 with e|e|e
  · rw[e,if_pos rfl,ob_some,if_pos rfl,cloop_succ,show wk .i64 (0+1)=1 from rfl,hend];rfl
  · rw[e,if_neg (by decide),ob_some,if_pos (by decide),cloop_succ,show wk .i64 (0+1)=1 from rfl,hend];rfl
  · rw[e,if_neg (by decide),ob_some,if_neg (by decide)];rfl
theorem attr_68(hd:v.fDims=[(n:Int)])(hf:20<fu):infer_ask_attributes fu ⟨68,setR,[v],1⟩=some true:=by
  have h:infer_ask_attributes fu ⟨68,setR,[v],1⟩=(shape_Axes fu [] (v.fDims.length:Int)).bind λx3=>some (decide (x3.2=0)):=rfl
  rw[h,hd]
  show(shape_Axes fu [] 1).bind _=_
  rw[axes_0 hf]
  rfl
theorem told_68:infer_ask_told (fu+4) ⟨68,setR,[v],1⟩=some 0:=rfl
theorem wrong_68(h0:Known v.fType)(hd:v.fDims=[(n:Int)])(hn:n≤4096)(hf:40<fu):infer_ask_wrong (fu+4) ⟨68,setR,[v],1⟩=some (if v.fType=9 then 5 else 0):=by
  have hg:=good_n hn
  have hv0:v.fType≠0:=by rcases h0 with e|e|e <;> rw[e] <;> decide
  have h:infer_ask_wrong (fu+4) ⟨68,setR,[v],1⟩=infer_ask_wrong.W2 (fu+4) ⟨68,setR,[v],1⟩ 0:=rfl
  rw[h]
  unfold infer_ask_wrong.W2
  rw[cloop_succ,infer_ask_wrong.L2,if_pos (by simp)]
  show(some v).bind _=_
  rw[ob_some,hd,Size_spec (by simp[Short]) (by show 1<fu+4;omega),ob_some]
  show(infer_ask_has (fu+4) ⟨68,setR,[v],1⟩ 0).bind _=_
  rw[has_68,ob_some,if_pos (by simp[hv0]),sizeV,if_pos hg,if_pos rfl,cloop_succ,show wk .i64 (0+1)=1 from rfl,infer_ask_wrong.L2,if_neg (by simp)]
  have e:infer_ask_wrong.k2 (fu+4) ⟨68,setR,[v],1⟩=(infer_ask_typed (fu+4) ⟨68,setR,[v],1⟩).bind λx2=>if x2=true then((infer_ask_attributes (fu+4) ⟨68,setR,[v],1⟩).bind λx3=>if x3=true then((infer_ask_told (fu+4) ⟨68,setR,[v],1⟩).bind λx4=>some x4)else some 14)else some 5:=rfl
  rw[e,typed_68 (fu:=fu+2) h0,ob_some]
  by_cases h9:v.fType=9
  · rw[if_neg (by simp[h9]),if_pos h9]
  · rw[if_pos (by simp[h9]),attr_68 hd (by omega),ob_some,if_pos rfl,told_68,ob_some,if_neg h9]
theorem over_68(hd:v.fDims=[(n:Int)])(hf:40<fu):infer_ask_over (fu+4) ⟨68,setR,[v],1⟩=some ([true],0):=by
  have h:infer_ask_over (fu+4) ⟨68,setR,[v],1⟩=(shape_Axes (fu+4) [] (v.fDims.length:Int)).bind λx3=>infer_ask_over.W2 (fu+4) x3 x3.1 0:=rfl
  rw[h,hd]
  show(shape_Axes (fu+4) [] 1).bind _=_
  rw[axes_0 (by omega)]
  rfl
theorem reduced_68(hd:v.fDims=[(n:Int)])(hf:40<fu):infer_ask_reduced (fu+4) ⟨68,setR,[v],1⟩=some (if n=0 then([],3)else([[]],0)):=by
  have h:infer_ask_reduced (fu+4) ⟨68,setR,[v],1⟩=(infer_ask_over (fu+4) ⟨68,setR,[v],1⟩).bind λx2=>if x2.2=0 then infer_ask_reduced.W2 (fu+4) x2 v.fDims false ([]:List Int) 0 else(infer_misfit (fu+4)).bind λx19=>some (x19.1,x19.2):=rfl
  rw[h,over_68 hd hf,ob_some,if_pos rfl,hd]
  unfold infer_ask_reduced.W2
  rw[cloop_succ]
  show infer_ask_reduced.L2 (fu+4) ([true],0) [(n:Int)] _ false [] 0=_
  rw[infer_ask_reduced.L2,if_pos (by simp)]
  show(some (n:Int)).bind _=_
  rw[ob_some]
  show(some true).bind _=_
  rw[ob_some,if_pos rfl]
  by_cases h0:n=0
  · subst h0
    rw[if_pos (by simp),if_pos rfl];rfl
  · rw[if_neg (by omega),if_neg h0,if_neg (by simp),cloop_succ]
    rfl
theorem Node_68(h0:Known v.fType)(hd:v.fDims=[(n:Int)])(hn:n≤4096)(hf:100<fu):infer_Node (fu+4) 68 setR [v] 1=some (if v.fType=9 then([],5)else if n=0 then([],3)else([outV v.fType []],0)):=by
  have hv0:v.fType≠0:=by rcases h0 with e|e|e <;> rw[e] <;> decide
  have h:infer_Node (fu+4) 68 setR [v] 1=(infer_ask_complete (fu+4) ⟨68,setR,[v],1⟩).bind fun x5=>if x5=true then((infer_ask_wrong (fu+4) ⟨68,setR,[v],1⟩).bind fun x6=>if x6=0 then
    ((((infer_ask_reduced (fu+4) ⟨68,setR,[v],1⟩).bind λx3=>some (x3.1,x3.2))).bind λx7=>if x7.2=0 then(infer_Node.W2 (fu+4) setR [v] 1 x7 ([]:List T_Val) 0)else some ([],x7.2))else some ([],x6))else some ([],1):=rfl
  rw[h,complete_68 (fu:=fu+2) hv0,ob_some,if_pos rfl,wrong_68 h0 hd hn (by omega),ob_some]
  by_cases h9:v.fType=9
  · rw[if_pos h9,if_pos h9,if_neg (by decide)]
  rw[if_neg h9,if_neg h9,if_pos rfl,reduced_68 hd (by omega),ob_some,ob_some]
  by_cases hn0:n=0
  · rw[if_pos hn0,if_pos hn0,if_neg (by decide)]
  rw[if_neg hn0,if_neg hn0,if_pos rfl]
  unfold infer_Node.W2
  rw[cloop_succ]
  show infer_Node.L2 (fu+4) setR [v] 1 ([[]],0) _ [] 0=_
  rw[infer_Node.L2,if_pos (show(0:Int)<((([[]],0):List (List Int)×Int).1.length:Int)by simp)]
  show(some ([]:List Int)).bind _=_
  have ho:infer_ask_out (fu+4) (T_infer_ask.mk 68 setR [v] 1)=some v.fType:=rfl
  have hs:shape_Size (fu+4) []=some (1,0):=(Size_spec (by simp[Short]) (by simp)).trans (by unfold sizeV;rw[if_pos ⟨by simp,(by intro z hz;cases hz),by simp[prod]⟩];rfl)
  rw[ob_some,hs,ob_some,if_pos rfl,ho,ob_some,Clone_spec (by simp),ob_some,chk_pos (by simp),cloop_succ]
  rfl
theorem work_68{c o:T_Tensor}(hd:c.fDims=[(n:Int)])(hf:40<fu):reduce_work_over (fu+4) ⟨68,setR,[c],c,o⟩=some [true]:=by
  have h:reduce_work_over (fu+4) ⟨68,setR,[c],c,o⟩=(shape_Axes (fu+4) [] (c.fDims.length:Int)).bind λx3=>reduce_work_over.W2 (fu+4) x3 x3.1 0:=rfl
  rw[h,hd]
  show(shape_Axes (fu+4) [] 1).bind _=_
  rw[axes_0 (by omega)]
  rfl
theorem head_68{t:T_Tensor}(ht:Ten t)(hft:Fuel (fu+4) t)(hc:checkV t=0)(hd:t.fDims=[(n:Int)])(hn:n≤4096)(hf:6000<fu):reduce_Do (fu+4) 68 setR [t]=
    if t.fType=9 then some (noT,5)else if n=0 then some (noT,3)else reduce_Do.k4 (fu+4) (canonT t) (newV t.fType []) [(n:Int)] [] [1] []:=by
  obtain⟨hkn,_,_⟩:=checkV_zero.1 hc
  have h0:t.fType≠0:=by rcases hkn with e|e|e <;> rw[e] <;> decide
  have hT:Tens (fu+4) [t]:=⟨by simp,by show 1<fu+4;omega,fun z hz=>by
    simp at hz;subst hz;exact⟨ht,hft⟩⟩
  have e:reduce_Do (fu+4) 68 setR [t]=reduce_Do.W4 (fu+4) setR [t] [] 0:=rfl
  have hb:badV [t]=none:=by unfold badV;rw[if_pos (.inr hc)];rfl
  rw[e]
  unfold reduce_Do.W4
  rw[head_loop hT (L:=reduce_Do.L4 (fu+4) setR [t]) (k1:=reduce_Do.k3 (fu+4) setR [t]) (er:=λe=>some (noT,e)) (λnx acc i=>rfl),hb]
  show reduce_Do.k3 (fu+4) setR [t] [canonT t]=_
  unfold reduce_Do.k3
  rw[Vals_all hT,ob_some]
  have hv:valOf t=⟨t.fType,t.fDims,true,t⟩:=if_neg h0
  show(infer_Node (fu+4) 68 setR [valOf t] 1).bind _=_
  rw[Node_68 (n:=n) (by rw[hv];exact hkn) (by rw[hv];exact hd) hn (by omega),ob_some,hv]
  show(if(if t.fType=9 then(([],5):List T_Val×Int)else if n=0 then([],3)else([outV t.fType []],0)).2=0 then _ else _)=_
  by_cases h9:t.fType=9
  · rw[if_pos h9,if_pos h9,if_neg (by decide)];rfl
  rw[if_neg h9,if_neg h9]
  by_cases hn0:n=0
  · rw[if_pos hn0,if_pos hn0,if_neg (by decide)];rfl
  rw[if_neg hn0,if_neg hn0,if_pos rfl]
  show(some (canonT t)).bind _=_
  rw[ob_some]
  show(some (outV t.fType [])).bind _=_
  rw[ob_some]
  show(tens_New (fu+4) t.fType []).bind _=_
  rw[New_spec (by simp[Short]) (by simp),ob_some,work_68 (c:=canonT t) (n:=n) hd (by omega),ob_some]
  show(shape_Strides (fu+4) t.fDims).bind _=_
  rw[hd,strides_1 hn (by omega),ob_some]
  unfold jn reduce_Do.W3
  rw[cloop_succ]
  show reduce_Do.L3 (fu+4) (canonT t) (newV t.fType []) [true] ([1],0) _ [] [] [] [] 0=_
  unfold reduce_Do.L3
  have hcd:(canonT t).fDims=[(n:Int)]:=hd
  rw[hcd,if_pos (show(0:Int)<((([(n:Int)]:List Int).length:Nat):Int)by simp)]
  show(some (n:Int)).bind _=_
  rw[ob_some]
  show(some true).bind _=_
  rw[ob_some,if_pos rfl,chk_pos (by simp)]
  show(some (1:Int)).bind _=_
  rw[ob_some,chk_pos (by simp)]
  show cloop _ (fu+3) ([(n:Int)],[],[1],[],1)=_
  rw[cloop_succ]
  dsimp only
  rw[if_neg (show ¬ (1:Int)<((([(n:Int)]:List Int).length:Nat):Int)by simp)]
end
section
variable {fu n:Nat} {v:T_Val}
theorem has_65:infer_ask_has fu ⟨65,setR,[v],1⟩ 0=some (!(decide (v.fType=0))):=rfl
theorem val_65:infer_ask_val fu ⟨65,setR,[v],1⟩ 0=some v:=rfl
theorem complete_65(h0:v.fType≠0):infer_ask_complete (fu+2) ⟨65,setR,[v],1⟩=some true:=by
  have h:infer_ask_complete (fu+2) ⟨65,setR,[v],1⟩=infer_ask_complete.W3 (fu+2) ⟨65,setR,[v],1⟩ (1,2,1,1) 0:=rfl
  rw[h]
  unfold infer_ask_complete.W3
  rw[cloop_succ,infer_ask_complete.L3,if_pos (by decide)]
  show(infer_ask_has (fu+2) ⟨65,setR,[v],1⟩ 0).bind _=_
  rw[has_65,ob_some,if_pos (by simp[h0]),cloop_succ,show wk .i64 (0+1)=1 from rfl,infer_ask_complete.L3,if_neg (by decide)]
theorem typed_65(h0:Known v.fType):infer_ask_typed (fu+2) ⟨65,setR,[v],1⟩=some (decide (v.fType≠9)):=by
  obtain⟨w,hw,hw0⟩:=width_k (fu:=fu+2) h0
  have hv0:v.fType≠0:=by rcases h0 with e|e|e <;> rw[e] <;> decide
  have h:infer_ask_typed (fu+2) ⟨65,setR,[v],1⟩=infer_ask_typed.W3 (fu+2) ⟨65,setR,[v],1⟩ ⟨#[110,105]⟩ 0:=rfl
  rw[h]
  unfold infer_ask_typed.W3
  rw[cloop_succ,infer_ask_typed.L3,if_pos (by simp)]
  show(infer_ask_has (fu+2) ⟨65,setR,[v],1⟩ 0).bind _=_
  rw[has_65,ob_some,if_pos (by simp[hv0])]
  show(infer_ask_val (fu+2) ⟨65,setR,[v],1⟩ 0).bind _=_
  rw[val_65,ob_some,hw,ob_some,if_neg (by omega)]
  show(some 110:Option Int).bind _=_
  rw[ob_some]
  have hf:infer_ask_fits (fu+2) ⟨65,setR,[v],1⟩ 0 110=if v.fType=1 then some true else some (decide (v.fType=7)):=rfl
  show(infer_ask_fits (fu+2) ⟨65,setR,[v],1⟩ 0 110).bind _=_
  rw[hf]
  have hend:infer_ask_typed.L3 (fu+2) ⟨65,setR,[v],1⟩ ⟨#[110,105]⟩ (cloop (fun next s=>infer_ask_typed.L3 (fu+2) ⟨65,setR,[v],1⟩ ⟨#[110,105]⟩ next s) fu) 1=some true:=by
    rw[infer_ask_typed.L3,if_neg (by simp)];rfl
  rcases h0 with e|e|e
  · rw[e,if_pos rfl,ob_some,if_pos rfl,cloop_succ,show wk .i64 (0+1)=1 from rfl,hend];rfl
  · rw[e,if_neg (by decide),ob_some,if_pos (by decide),cloop_succ,show wk .i64 (0+1)=1 from rfl,hend];rfl
  · rw[e,if_neg (by decide),ob_some,if_neg (by decide)];rfl
theorem attr_65(hd:v.fDims=[(n:Int)])(hf:20<fu):infer_ask_attributes fu ⟨65,setR,[v],1⟩=some true:=by
  exact rfl
theorem told_65:infer_ask_told (fu+4) ⟨65,setR,[v],1⟩=some 0:=rfl
theorem wrong_65(h0:Known v.fType)(hd:v.fDims=[(n:Int)])(hn:n≤4096)(hf:40<fu):infer_ask_wrong (fu+4) ⟨65,setR,[v],1⟩=some (if v.fType=9 then 5 else 0):=by
  have hg:=good_n hn
  have hv0:v.fType≠0:=by rcases h0 with e|e|e <;> rw[e] <;> decide
  have h:infer_ask_wrong (fu+4) ⟨65,setR,[v],1⟩=infer_ask_wrong.W3 (fu+4) ⟨65,setR,[v],1⟩ 0:=rfl
  rw[h]
  unfold infer_ask_wrong.W3
  rw[cloop_succ,infer_ask_wrong.L3,if_pos (by simp)]
  show(some v).bind _=_
  rw[ob_some,hd,Size_spec (by simp[Short]) (by show 1<fu+4;omega),ob_some]
  show(infer_ask_has (fu+4) ⟨65,setR,[v],1⟩ 0).bind _=_
  rw[has_65,ob_some,if_pos (by simp[hv0]),sizeV,if_pos hg,if_pos rfl,cloop_succ,show wk .i64 (0+1)=1 from rfl,infer_ask_wrong.L3,if_neg (by simp)]
  have e:infer_ask_wrong.k3 (fu+4) ⟨65,setR,[v],1⟩=(infer_ask_typed (fu+4) ⟨65,setR,[v],1⟩).bind λx2=>if x2=true then((infer_ask_attributes (fu+4) ⟨65,setR,[v],1⟩).bind λx3=>if x3=true then((infer_ask_told (fu+4) ⟨65,setR,[v],1⟩).bind λx4=>some x4)else some 14)else some 5:=rfl
  rw[e,typed_65 (fu:=fu+2) h0,ob_some]
  by_cases h9:v.fType=9
  · rw[if_neg (by simp[h9]),if_pos h9]
  · rw[if_pos (by simp[h9]),attr_65 hd (by omega),ob_some,if_pos rfl,told_65,ob_some,if_neg h9]
theorem over_65(hd:v.fDims=[(n:Int)])(hf:40<fu):infer_ask_over (fu+4) ⟨65,setR,[v],1⟩=some ([true],0):=by
  have h:infer_ask_over (fu+4) ⟨65,setR,[v],1⟩=(shape_Axes (fu+4) [] (v.fDims.length:Int)).bind λx3=>infer_ask_over.W4 (fu+4) x3 x3.1 0:=rfl
  rw[h,hd]
  show(shape_Axes (fu+4) [] 1).bind _=_
  rw[axes_0 (by omega)]
  rfl
theorem reduced_65(hd:v.fDims=[(n:Int)])(hf:40<fu):infer_ask_reduced (fu+4) ⟨65,setR,[v],1⟩=some (if n=0∧False then([],3)else([[]],0)):=by
  have h:infer_ask_reduced (fu+4) ⟨65,setR,[v],1⟩=(infer_ask_over (fu+4) ⟨65,setR,[v],1⟩).bind λx2=>if x2.2=0 then infer_ask_reduced.W3 (fu+4) x2 v.fDims false ([]:List Int) 0 else(infer_misfit (fu+4)).bind λx19=>some (x19.1,x19.2):=rfl
  rw[h,over_65 hd hf,ob_some,if_pos rfl,hd]
  unfold infer_ask_reduced.W3
  rw[cloop_succ]
  show infer_ask_reduced.L3 (fu+4) ([true],0) [(n:Int)] _ false [] 0=_
  rw[infer_ask_reduced.L3,if_pos (by simp)]
  show(some (n:Int)).bind _=_
  rw[ob_some]
  show(some true).bind _=_
  rw[ob_some,if_pos rfl]
  rw[if_neg (show ¬ (false=true)by simp),show(if n=0/\False then(([],3):List (List Int)×Int)else([[]],0))=([[]],0)from if_neg (λh=>h.2.elim),cloop_succ]
  split <;> rfl
theorem Node_65(h0:Known v.fType)(hd:v.fDims=[(n:Int)])(hn:n≤4096)(hf:100<fu):infer_Node (fu+4) 65 setR [v] 1=some (if v.fType=9 then([],5)else if n=0∧False then([],3)else([outV v.fType []],0)):=by
  have hv0:v.fType≠0:=by rcases h0 with e|e|e <;> rw[e] <;> decide
  have h:infer_Node (fu+4) 65 setR [v] 1=(infer_ask_complete (fu+4) ⟨65,setR,[v],1⟩).bind fun x5=>if x5=true then((infer_ask_wrong (fu+4) ⟨65,setR,[v],1⟩).bind fun x6=>if x6=0 then
    ((((infer_ask_reduced (fu+4) ⟨65,setR,[v],1⟩).bind λx3=>some (x3.1,x3.2))).bind λx7=>if x7.2=0 then(infer_Node.W3 (fu+4) setR [v] 1 x7 ([]:List T_Val) 0)else some ([],x7.2))else some ([],x6))else some ([],1):=rfl
  rw[h,complete_65 (fu:=fu+2) hv0,ob_some,if_pos rfl,wrong_65 h0 hd hn (by omega),ob_some]
  by_cases h9:v.fType=9
  · rw[if_pos h9,if_pos h9,if_neg (by decide)]
  rw[if_neg h9,if_neg h9,if_pos rfl,reduced_65 hd (by omega),ob_some,ob_some]
  by_cases hn0:n=0/\False
  · rw[if_pos hn0,if_pos hn0,if_neg (by decide)]
  rw[if_neg hn0,if_neg hn0,if_pos rfl]
  unfold infer_Node.W3
  rw[cloop_succ]
  show infer_Node.L3 (fu+4) setR [v] 1 ([[]],0) _ [] 0=_
  rw[infer_Node.L3,if_pos (show(0:Int)<((([[]],0):List (List Int)×Int).1.length:Int)by simp)]
  show(some ([]:List Int)).bind _=_
  have ho:infer_ask_out (fu+4) (T_infer_ask.mk 65 setR [v] 1)=some v.fType:=rfl
  have hs:shape_Size (fu+4) []=some (1,0):=(Size_spec (by simp[Short]) (by simp)).trans (by unfold sizeV;rw[if_pos ⟨by simp,(by intro z hz;cases hz),by simp[prod]⟩];rfl)
  rw[ob_some,hs,ob_some,if_pos rfl,ho,ob_some,Clone_spec (by simp),ob_some,chk_pos (by simp),cloop_succ]
  rfl
theorem work_65{c o:T_Tensor}(hd:c.fDims=[(n:Int)])(hf:40<fu):reduce_work_over (fu+4) ⟨65,setR,[c],c,o⟩=some [true]:=by
  have h:reduce_work_over (fu+4) ⟨65,setR,[c],c,o⟩=(shape_Axes (fu+4) [] (c.fDims.length:Int)).bind λx3=>reduce_work_over.W4 (fu+4) x3 x3.1 0:=rfl
  rw[h,hd]
  show(shape_Axes (fu+4) [] 1).bind _=_
  rw[axes_0 (by omega)]
  rfl
theorem head_65{t:T_Tensor}(ht:Ten t)(hft:Fuel (fu+4) t)(hc:checkV t=0)(hd:t.fDims=[(n:Int)])(hn:n≤4096)(hf:6000<fu):reduce_Do (fu+4) 65 setR [t]=
    if t.fType=9 then some (noT,5)else if n=0/\False then some (noT,3)else reduce_Do.k6 (fu+4) (canonT t) (newV t.fType []) [(n:Int)] [] [1] []:=by
  obtain⟨hkn,_,_⟩:=checkV_zero.1 hc
  have h0:t.fType≠0:=by rcases hkn with e|e|e <;> rw[e] <;> decide
  have hT:Tens (fu+4) [t]:=⟨by simp,by show 1<fu+4;omega,fun z hz=>by
    simp at hz;subst hz;exact⟨ht,hft⟩⟩
  have e:reduce_Do (fu+4) 65 setR [t]=reduce_Do.W6 (fu+4) setR [t] [] 0:=rfl
  have hb:badV [t]=none:=by unfold badV;rw[if_pos (.inr hc)];rfl
  rw[e]
  unfold reduce_Do.W6
  rw[head_loop hT (L:=reduce_Do.L6 (fu+4) setR [t]) (k1:=reduce_Do.k5 (fu+4) setR [t]) (er:=λe=>some (noT,e)) (λnx acc i=>rfl),hb]
  show reduce_Do.k5 (fu+4) setR [t] [canonT t]=_
  unfold reduce_Do.k5
  rw[Vals_all hT,ob_some]
  have hv:valOf t=⟨t.fType,t.fDims,true,t⟩:=if_neg h0
  show(infer_Node (fu+4) 65 setR [valOf t] 1).bind _=_
  rw[Node_65 (n:=n) (by rw[hv];exact hkn) (by rw[hv];exact hd) hn (by omega),ob_some,hv]
  show(if(if t.fType=9 then(([],5):List T_Val×Int)else if n=0/\False then([],3)else([outV t.fType []],0)).2=0 then _ else _)=_
  by_cases h9:t.fType=9
  · rw[if_pos h9,if_pos h9,if_neg (by decide)];rfl
  rw[if_neg h9,if_neg h9]
  by_cases hn0:n=0/\False
  · rw[if_pos hn0,if_pos hn0,if_neg (by decide)];rfl
  rw[if_neg hn0,if_neg hn0,if_pos rfl]
  show(some (canonT t)).bind _=_
  rw[ob_some]
  show(some (outV t.fType [])).bind _=_
  rw[ob_some]
  show(tens_New (fu+4) t.fType []).bind _=_
  rw[New_spec (by simp[Short]) (by simp),ob_some,work_65 (c:=canonT t) (n:=n) hd (by omega),ob_some]
  show(shape_Strides (fu+4) t.fDims).bind _=_
  rw[hd,strides_1 hn (by omega),ob_some]
  unfold jn reduce_Do.W5
  rw[cloop_succ]
  show reduce_Do.L5 (fu+4) (canonT t) (newV t.fType []) [true] ([1],0) _ [] [] [] [] 0=_
  unfold reduce_Do.L5
  have hcd:(canonT t).fDims=[(n:Int)]:=hd
  rw[hcd,if_pos (show(0:Int)<((([(n:Int)]:List Int).length:Nat):Int)by simp)]
  show(some (n:Int)).bind _=_
  rw[ob_some]
  show(some true).bind _=_
  rw[ob_some,if_pos rfl,chk_pos (by simp)]
  show(some (1:Int)).bind _=_
  rw[ob_some,chk_pos (by simp)]
  show cloop _ (fu+3) ([(n:Int)],[],[1],[],1)=_
  rw[cloop_succ]
  dsimp only
  rw[if_neg (show ¬ (1:Int)<((([(n:Int)]:List Int).length:Nat):Int)by simp)]
end
section
variable {fu n:Nat} {v:T_Val}
theorem has_69:infer_ask_has fu ⟨69,setR,[v],1⟩ 0=some (!(decide (v.fType=0))):=rfl
theorem val_69:infer_ask_val fu ⟨69,setR,[v],1⟩ 0=some v:=rfl
theorem complete_69(h0:v.fType≠0):infer_ask_complete (fu+2) ⟨69,setR,[v],1⟩=some true:=by
  have h:infer_ask_complete (fu+2) ⟨69,setR,[v],1⟩=infer_ask_complete.W4 (fu+2) ⟨69,setR,[v],1⟩ (1,1,1,1) 0:=rfl
  rw[h]
  unfold infer_ask_complete.W4
  rw[cloop_succ,infer_ask_complete.L4,if_pos (by decide)]
  show(infer_ask_has (fu+2) ⟨69,setR,[v],1⟩ 0).bind _=_
  rw[has_69,ob_some,if_pos (by simp[h0]),cloop_succ,show wk .i64 (0+1)=1 from rfl,infer_ask_complete.L4,if_neg (by decide)]
theorem typed_69(h0:Known v.fType):infer_ask_typed (fu+2) ⟨69,setR,[v],1⟩=some (decide (v.fType≠9)):=by
  obtain⟨w,hw,hw0⟩:=width_k (fu:=fu+2) h0
  have hv0:v.fType≠0:=by rcases h0 with e|e|e <;> rw[e] <;> decide
  have h:infer_ask_typed (fu+2) ⟨69,setR,[v],1⟩=infer_ask_typed.W4 (fu+2) ⟨69,setR,[v],1⟩ ⟨#[110]⟩ 0:=rfl
  rw[h]
  unfold infer_ask_typed.W4
  rw[cloop_succ,infer_ask_typed.L4,if_pos (by simp)]
  show(infer_ask_has (fu+2) ⟨69,setR,[v],1⟩ 0).bind _=_
  rw[has_69,ob_some,if_pos (by simp[hv0])]
  show(infer_ask_val (fu+2) ⟨69,setR,[v],1⟩ 0).bind _=_
  rw[val_69,ob_some,hw,ob_some,if_neg (by omega)]
  show(some 110:Option Int).bind _=_
  rw[ob_some]
  have hf:infer_ask_fits (fu+2) ⟨69,setR,[v],1⟩ 0 110=if v.fType=1 then some true else some (decide (v.fType=7)):=rfl
  show(infer_ask_fits (fu+2) ⟨69,setR,[v],1⟩ 0 110).bind _=_
  rw[hf]
  have hend:infer_ask_typed.L4 (fu+2) ⟨69,setR,[v],1⟩ ⟨#[110]⟩ (cloop (fun next s=>infer_ask_typed.L4 (fu+2) ⟨69,setR,[v],1⟩ ⟨#[110]⟩ next s) fu) 1=some true:=by
    rw[infer_ask_typed.L4,if_neg (by simp)];rfl
  rcases h0 with e|e|e
  · rw[e,if_pos rfl,ob_some,if_pos rfl,cloop_succ,show wk .i64 (0+1)=1 from rfl,hend];rfl
  · rw[e,if_neg (by decide),ob_some,if_pos (by decide),cloop_succ,show wk .i64 (0+1)=1 from rfl,hend];rfl
  · rw[e,if_neg (by decide),ob_some,if_neg (by decide)];rfl
theorem attr_69(hd:v.fDims=[(n:Int)])(hf:20<fu):infer_ask_attributes fu ⟨69,setR,[v],1⟩=some true:=by
  have h:infer_ask_attributes fu ⟨69,setR,[v],1⟩=(shape_Axes fu [] (v.fDims.length:Int)).bind λx3=>some (decide (x3.2=0)):=rfl
  rw[h,hd]
  show(shape_Axes fu [] 1).bind _=_
  rw[axes_0 hf]
  rfl
theorem told_69:infer_ask_told (fu+4) ⟨69,setR,[v],1⟩=some 0:=rfl
theorem wrong_69(h0:Known v.fType)(hd:v.fDims=[(n:Int)])(hn:n≤4096)(hf:40<fu):infer_ask_wrong (fu+4) ⟨69,setR,[v],1⟩=some (if v.fType=9 then 5 else 0):=by
  have hg:=good_n hn
  have hv0:v.fType≠0:=by rcases h0 with e|e|e <;> rw[e] <;> decide
  have h:infer_ask_wrong (fu+4) ⟨69,setR,[v],1⟩=infer_ask_wrong.W4 (fu+4) ⟨69,setR,[v],1⟩ 0:=rfl
  rw[h]
  unfold infer_ask_wrong.W4
  rw[cloop_succ,infer_ask_wrong.L4,if_pos (by simp)]
  show(some v).bind _=_
  rw[ob_some,hd,Size_spec (by simp[Short]) (by show 1<fu+4;omega),ob_some]
  show(infer_ask_has (fu+4) ⟨69,setR,[v],1⟩ 0).bind _=_
  rw[has_69,ob_some,if_pos (by simp[hv0]),sizeV,if_pos hg,if_pos rfl,cloop_succ,show wk .i64 (0+1)=1 from rfl,infer_ask_wrong.L4,if_neg (by simp)]
  have e:infer_ask_wrong.k4 (fu+4) ⟨69,setR,[v],1⟩=(infer_ask_typed (fu+4) ⟨69,setR,[v],1⟩).bind λx2=>if x2=true then((infer_ask_attributes (fu+4) ⟨69,setR,[v],1⟩).bind λx3=>if x3=true then((infer_ask_told (fu+4) ⟨69,setR,[v],1⟩).bind λx4=>some x4)else some 14)else some 5:=rfl
  rw[e,typed_69 (fu:=fu+2) h0,ob_some]
  by_cases h9:v.fType=9
  · rw[if_neg (by simp[h9]),if_pos h9]
  · rw[if_pos (by simp[h9]),attr_69 hd (by omega),ob_some,if_pos rfl,told_69,ob_some,if_neg h9]
theorem over_69(hd:v.fDims=[(n:Int)])(hf:40<fu):infer_ask_over (fu+4) ⟨69,setR,[v],1⟩=some ([true],0):=by
  have h:infer_ask_over (fu+4) ⟨69,setR,[v],1⟩=(shape_Axes (fu+4) [] (v.fDims.length:Int)).bind λx3=>infer_ask_over.W5 (fu+4) x3 x3.1 0:=rfl
  rw[h,hd]
  show(shape_Axes (fu+4) [] 1).bind _=_
  rw[axes_0 (by omega)]
  rfl
theorem reduced_69(hd:v.fDims=[(n:Int)])(hf:40<fu):infer_ask_reduced (fu+4) ⟨69,setR,[v],1⟩=some (if n=0∧False then([],3)else([[]],0)):=by
  have h:infer_ask_reduced (fu+4) ⟨69,setR,[v],1⟩=(infer_ask_over (fu+4) ⟨69,setR,[v],1⟩).bind λx2=>if x2.2=0 then infer_ask_reduced.W4 (fu+4) x2 v.fDims false ([]:List Int) 0 else(infer_misfit (fu+4)).bind λx19=>some (x19.1,x19.2):=rfl
  rw[h,over_69 hd hf,ob_some,if_pos rfl,hd]
  unfold infer_ask_reduced.W4
  rw[cloop_succ]
  show infer_ask_reduced.L4 (fu+4) ([true],0) [(n:Int)] _ false [] 0=_
  rw[infer_ask_reduced.L4,if_pos (by simp)]
  show(some (n:Int)).bind _=_
  rw[ob_some]
  show(some true).bind _=_
  rw[ob_some,if_pos rfl]
  rw[if_neg (show ¬ (false=true)by simp),show(if n=0/\False then(([],3):List (List Int)×Int)else([[]],0))=([[]],0)from if_neg (λh=>h.2.elim),cloop_succ]
  split <;> rfl
theorem Node_69(h0:Known v.fType)(hd:v.fDims=[(n:Int)])(hn:n≤4096)(hf:100<fu):infer_Node (fu+4) 69 setR [v] 1=some (if v.fType=9 then([],5)else if n=0∧False then([],3)else([outV v.fType []],0)):=by
  have hv0:v.fType≠0:=by rcases h0 with e|e|e <;> rw[e] <;> decide
  have h:infer_Node (fu+4) 69 setR [v] 1=(infer_ask_complete (fu+4) ⟨69,setR,[v],1⟩).bind fun x5=>if x5=true then((infer_ask_wrong (fu+4) ⟨69,setR,[v],1⟩).bind fun x6=>if x6=0 then
    ((((infer_ask_reduced (fu+4) ⟨69,setR,[v],1⟩).bind λx3=>some (x3.1,x3.2))).bind λx7=>if x7.2=0 then(infer_Node.W4 (fu+4) setR [v] 1 x7 ([]:List T_Val) 0)else some ([],x7.2))else some ([],x6))else some ([],1):=rfl
  rw[h,complete_69 (fu:=fu+2) hv0,ob_some,if_pos rfl,wrong_69 h0 hd hn (by omega),ob_some]
  by_cases h9:v.fType=9
  · rw[if_pos h9,if_pos h9,if_neg (by decide)]
  rw[if_neg h9,if_neg h9,if_pos rfl,reduced_69 hd (by omega),ob_some,ob_some]
  by_cases hn0:n=0/\False
  · rw[if_pos hn0,if_pos hn0,if_neg (by decide)]
  rw[if_neg hn0,if_neg hn0,if_pos rfl]
  unfold infer_Node.W4
  rw[cloop_succ]
  show infer_Node.L4 (fu+4) setR [v] 1 ([[]],0) _ [] 0=_
  rw[infer_Node.L4,if_pos (show(0:Int)<((([[]],0):List (List Int)×Int).1.length:Int)by simp)]
  show(some ([]:List Int)).bind _=_
  have ho:infer_ask_out (fu+4) (T_infer_ask.mk 69 setR [v] 1)=some v.fType:=rfl
  have hs:shape_Size (fu+4) []=some (1,0):=(Size_spec (by simp[Short]) (by simp)).trans (by unfold sizeV;rw[if_pos ⟨by simp,(by intro z hz;cases hz),by simp[prod]⟩];rfl)
  rw[ob_some,hs,ob_some,if_pos rfl,ho,ob_some,Clone_spec (by simp),ob_some,chk_pos (by simp),cloop_succ]
  rfl
theorem work_69{c o:T_Tensor}(hd:c.fDims=[(n:Int)])(hf:40<fu):reduce_work_over (fu+4) ⟨69,setR,[c],c,o⟩=some [true]:=by
  have h:reduce_work_over (fu+4) ⟨69,setR,[c],c,o⟩=(shape_Axes (fu+4) [] (c.fDims.length:Int)).bind λx3=>reduce_work_over.W5 (fu+4) x3 x3.1 0:=rfl
  rw[h,hd]
  show(shape_Axes (fu+4) [] 1).bind _=_
  rw[axes_0 (by omega)]
  rfl
theorem head_69{t:T_Tensor}(ht:Ten t)(hft:Fuel (fu+4) t)(hc:checkV t=0)(hd:t.fDims=[(n:Int)])(hn:n≤4096)(hf:6000<fu):reduce_Do (fu+4) 69 setR [t]=
    if t.fType=9 then some (noT,5)else if n=0/\False then some (noT,3)else reduce_Do.k8 (fu+4) (canonT t) (newV t.fType []) [(n:Int)] [] [1] []:=by
  obtain⟨hkn,_,_⟩:=checkV_zero.1 hc
  have h0:t.fType≠0:=by rcases hkn with e|e|e <;> rw[e] <;> decide
  have hT:Tens (fu+4) [t]:=⟨by simp,by show 1<fu+4;omega,fun z hz=>by
    simp at hz;subst hz;exact⟨ht,hft⟩⟩
  have e:reduce_Do (fu+4) 69 setR [t]=reduce_Do.W8 (fu+4) setR [t] [] 0:=rfl
  have hb:badV [t]=none:=by unfold badV;rw[if_pos (.inr hc)];rfl
  rw[e]
  unfold reduce_Do.W8
  rw[head_loop hT (L:=reduce_Do.L8 (fu+4) setR [t]) (k1:=reduce_Do.k7 (fu+4) setR [t]) (er:=λe=>some (noT,e)) (λnx acc i=>rfl),hb]
  show reduce_Do.k7 (fu+4) setR [t] [canonT t]=_
  unfold reduce_Do.k7
  rw[Vals_all hT,ob_some]
  have hv:valOf t=⟨t.fType,t.fDims,true,t⟩:=if_neg h0
  show(infer_Node (fu+4) 69 setR [valOf t] 1).bind _=_
  rw[Node_69 (n:=n) (by rw[hv];exact hkn) (by rw[hv];exact hd) hn (by omega),ob_some,hv]
  show(if(if t.fType=9 then(([],5):List T_Val×Int)else if n=0/\False then([],3)else([outV t.fType []],0)).2=0 then _ else _)=_
  by_cases h9:t.fType=9
  · rw[if_pos h9,if_pos h9,if_neg (by decide)];rfl
  rw[if_neg h9,if_neg h9]
  by_cases hn0:n=0/\False
  · rw[if_pos hn0,if_pos hn0,if_neg (by decide)];rfl
  rw[if_neg hn0,if_neg hn0,if_pos rfl]
  show(some (canonT t)).bind _=_
  rw[ob_some]
  show(some (outV t.fType [])).bind _=_
  rw[ob_some]
  show(tens_New (fu+4) t.fType []).bind _=_
  rw[New_spec (by simp[Short]) (by simp),ob_some,work_69 (c:=canonT t) (n:=n) hd (by omega),ob_some]
  show(shape_Strides (fu+4) t.fDims).bind _=_
  rw[hd,strides_1 hn (by omega),ob_some]
  unfold jn reduce_Do.W7
  rw[cloop_succ]
  show reduce_Do.L7 (fu+4) (canonT t) (newV t.fType []) [true] ([1],0) _ [] [] [] [] 0=_
  unfold reduce_Do.L7
  have hcd:(canonT t).fDims=[(n:Int)]:=hd
  rw[hcd,if_pos (show(0:Int)<((([(n:Int)]:List Int).length:Nat):Int)by simp)]
  show(some (n:Int)).bind _=_
  rw[ob_some]
  show(some true).bind _=_
  rw[ob_some,if_pos rfl,chk_pos (by simp)]
  show(some (1:Int)).bind _=_
  rw[ob_some,chk_pos (by simp)]
  show cloop _ (fu+3) ([(n:Int)],[],[1],[],1)=_
  rw[cloop_succ]
  dsimp only
  rw[if_neg (show ¬ (1:Int)<((([(n:Int)]:List Int).length:Nat):Int)by simp)]
end
end Go.Av
set_option linter.unusedVariables false
namespace Go.Av
def Wd(x:Int):Prop:=0<=x/\x<4294967296/\(2139095040<x%2147483648->x=2143289344)
theorem canon_wd{x:Int}(h0:0≤x)(h1:x<4294967296):Wd (canonF x):=by
  unfold canonF
  split
  · exact⟨by decide,by decide,λ_=>rfl⟩
  · rename_i h
    exact⟨h0,h1,λh2=>absurd h2 h⟩
def plc(x:Int):Int:=if 2147483648<=x then -(x - 2147483648)else x
theorem shr31{x:Int}(h0:0≤x)(h1:x<4294967296):(shrk .u32 x 31=1) ↔ 2147483648≤x:=by
  have e:shrk .u32 x 31=x / 2147483648:=by
    unfold shrk
    rw[show(2:Int) ^ (min (31:Int).toNat IntKind.u32.bits)=2147483648 by decide]
    exact Int.fdiv_eq_ediv_of_nonneg _ (by decide)
  rw[e]
  omega
section
variable {fu:Nat} {a b:Int}
theorem NaN_spec(h0:0≤a)(h1:a<4294967296):soft_NaN fu a=some (decide (2139095040<a%2147483648)):=by
  unfold soft_NaN soft_Abs
  rw[abs_u32 h0 h1,ob_some]
theorem place_spec(h0:0≤a)(h1:a<4294967296):soft_place fu a=some (plc a):=by
  unfold soft_place soft_Abs plc
  rw[abs_u32 h0 h1,ob_some]
  by_cases h:2147483648<=a
  · rw[if_pos ((shr31 h0 h1).2 h),if_pos h,wk_eq (x:=a%2147483648) (by omega) (by omega),wk_eq (by omega) (by omega)]
    congr 1;omega
  · rw[if_neg (fun hh=>h ((shr31 h0 h1).1 hh)),if_neg h,wk_eq (by omega) (by omega)]
    congr 1;omega
def nanW(x:Int):Prop:=2139095040<x%2147483648
instance (x:Int):Decidable (nanW x):=by unfold nanW;infer_instance
theorem Equal_spec(h0:0≤a)(h1:a<4294967296)(g0:0≤b)(g1:b<4294967296)(ha: ¬ nanW a)(hb: ¬ nanW b):soft_Equal fu a b=some (decide (plc a=plc b)):=by
  unfold soft_Equal
  rw[NaN_spec h0 h1,ob_some,if_neg (by simpa[nanW]using ha),NaN_spec g0 g1,ob_some,if_neg (by simpa[nanW]using hb),place_spec h0 h1,ob_some,place_spec g0 g1,ob_some]
theorem Less_spec(h0:0≤a)(h1:a<4294967296)(g0:0≤b)(g1:b<4294967296)(ha: ¬ nanW a)(hb: ¬ nanW b):soft_Less fu a b=some (decide (plc a<plc b)):=by
  unfold soft_Less
  rw[NaN_spec h0 h1,ob_some,if_neg (by simpa[nanW]using ha),NaN_spec g0 g1,ob_some,if_neg (by simpa[nanW]using hb),place_spec h0 h1,ob_some,place_spec g0 g1,ob_some]
theorem bv32(h0:0≤a)(h1:a<4294967296):(BitVec.ofInt 32 a).toNat=a.toNat:=by
  rw[BitVec.toNat_ofInt]
  have:a%((2 ^ 32:Nat):Int)=a:=Int.emod_eq_of_lt h0 h1
  rw[this]
theorem band_self(h0:0≤a)(h1:a<4294967296):band .u32 a a=a:=by
  unfold band
  rw[show IntKind.u32.bits=32 from rfl,BitVec.and_self,bv32 h0 h1]
  have:=wk_eq32 (x:=((a.toNat:Nat):Int)) (by omega) (by omega)
  unfold wk at this
  rw[this];omega
theorem bor_self(h0:0≤a)(h1:a<4294967296):bor .u32 a a=a:=by
  unfold bor
  rw[show IntKind.u32.bits=32 from rfl,BitVec.or_self,bv32 h0 h1]
  have:=wk_eq32 (x:=((a.toNat:Nat):Int)) (by omega) (by omega)
  unfold wk at this
  rw[this];omega
def keyU(x:Int):Int:=if nanW x then 10000000000 else if 2147483648<=x then -(x - 2147483648) - 1 else x
def keyD(x:Int):Int:=if nanW x then -10000000000 else if 2147483648<=x then -(x - 2147483648) - 1 else x
theorem keyU_inj(ha:Wd a)(hb:Wd b)(h:keyU a=keyU b):a=b:=by
  obtain⟨a0,a1,a2⟩:=ha
  obtain⟨b0,b1,b2⟩:=hb
  unfold keyU at h
  by_cases na:nanW a
  · rw[if_pos na]at h
    by_cases nb:nanW b
    · rw[a2 na,b2 nb]
    · rw[if_neg nb]at h;split at h <;> omega
  · rw[if_neg na]at h
    by_cases nb:nanW b
    · rw[if_pos nb]at h;split at h <;> omega
    · rw[if_neg nb]at h;split at h <;> split at h <;> omega
theorem keyD_inj(ha:Wd a)(hb:Wd b)(h:keyD a=keyD b):a=b:=by
  obtain⟨a0,a1,a2⟩:=ha
  obtain⟨b0,b1,b2⟩:=hb
  unfold keyD at h
  by_cases na:nanW a
  · rw[if_pos na]at h
    by_cases nb:nanW b
    · rw[a2 na,b2 nb]
    · rw[if_neg nb]at h;split at h <;> omega
  · rw[if_neg na]at h
    by_cases nb:nanW b
    · rw[if_pos nb]at h;split at h <;> omega
    · rw[if_neg nb]at h;split at h <;> split at h <;> omega
def maxW(a b:Int):Int:=if keyU a<keyU b then b else a
def minW(a b:Int):Int:=if keyD b<keyD a then b else a
theorem Max_spec(ha:Wd a)(hb:Wd b):soft_Max fu a b=some (maxW a b):=by
  obtain⟨a0,a1,a2⟩:=ha
  obtain⟨b0,b1,b2⟩:=hb
  unfold soft_Max maxW
  rw[NaN_spec a0 a1,ob_some]
  by_cases na:nanW a
  · rw[if_pos (by simpa[nanW]using na)]
    have hk:keyU a=10000000000:=if_pos na
    have: ¬ keyU a<keyU b:=by rw[hk];unfold keyU;split <;> (try split) <;> omega
    rw[if_neg this,a2 na]
  rw[if_neg (by simpa[nanW]using na),NaN_spec b0 b1,ob_some]
  by_cases nb:nanW b
  · rw[if_pos (by simpa[nanW]using nb)]
    have hk:keyU b=10000000000:=if_pos nb
    have:keyU a<keyU b:=by rw[hk];unfold keyU;rw[if_neg na];split <;> omega
    rw[if_pos this,b2 nb]
  rw[if_neg (by simpa[nanW]using nb),Equal_spec a0 a1 b0 b1 na nb,ob_some]
  have ka:keyU a=if 2147483648<=a then -(a - 2147483648) - 1 else a:=if_neg na
  have kb:keyU b=if 2147483648<=b then -(b - 2147483648) - 1 else b:=if_neg nb
  by_cases he:plc a=plc b
  · rw[if_pos (by simpa using he)]
    by_cases hab:a=b
    · subst hab
      rw[band_self a0 a1,if_neg (by omega)]
    · unfold plc at he
      have hz:(a=0/\b=2147483648)∨(a=2147483648/\b=0):=by split at he <;> split at he <;> omega
      rcases hz with⟨rfl,rfl⟩|⟨rfl,rfl⟩ <;> decide
  · rw [if_neg (by simpa using he),Less_spec a0 a1 b0 b1 na nb,ob_some]
    unfold plc at he
    by_cases hl:plc a<plc b
    · rw[if_pos (by simpa using hl)]
      have:keyU a<keyU b:=by
        unfold plc at hl
        rw[ka,kb]
        split at hl <;> split at hl <;> omega
      rw[if_pos this]
    · rw[if_neg (by simpa using hl)]
      have: ¬ keyU a<keyU b:=by
        unfold plc at hl
        rw[ka,kb]
        split at hl <;> split at hl <;> split at he <;> (try split at he) <;> omega
      rw[if_neg this]
theorem Min_spec(ha:Wd a)(hb:Wd b):soft_Min fu a b=some (minW a b):=by
  obtain⟨a0,a1,a2⟩:=ha
  obtain⟨b0,b1,b2⟩:=hb
  unfold soft_Min minW
  rw[NaN_spec a0 a1,ob_some]
  by_cases na:nanW a
  · rw[if_pos (by simpa[nanW]using na)]
    have hk:keyD a= -10000000000:=if_pos na
    have: ¬ keyD b<keyD a:=by rw[hk];unfold keyD;split <;> (try split) <;> omega
    rw[if_neg this,a2 na]
  rw[if_neg (by simpa[nanW]using na),NaN_spec b0 b1,ob_some]
  by_cases nb:nanW b
  · rw[if_pos (by simpa[nanW]using nb)]
    have hk:keyD b= -10000000000:=if_pos nb
    have:keyD b<keyD a:=by rw[hk];unfold keyD;rw[if_neg na];split <;> omega
    rw[if_pos this,b2 nb]
  rw[if_neg (by simpa[nanW]using nb),Equal_spec a0 a1 b0 b1 na nb,ob_some]
  have ka:keyD a=if 2147483648<=a then -(a - 2147483648) - 1 else a:=if_neg na
  have kb:keyD b=if 2147483648<=b then -(b - 2147483648) - 1 else b:=if_neg nb
  by_cases he:plc a=plc b
  · rw[if_pos (by simpa using he)]
    by_cases hab:a=b
    · subst hab
      rw[bor_self a0 a1,if_neg (by omega)]
    · unfold plc at he
      have hz:(a=0/\b=2147483648)∨(a=2147483648/\b=0):=by split at he <;> split at he <;> omega
      rcases hz with⟨rfl,rfl⟩|⟨rfl,rfl⟩ <;> decide
  · rw [if_neg (by simpa using he),Less_spec b0 b1 a0 a1 nb na,ob_some]
    unfold plc at he
    by_cases hl:plc b<plc a
    · rw[if_pos (by simpa using hl)]
      have:keyD b<keyD a:=by
        unfold plc at hl
        rw[ka,kb]
        split at hl <;> split at hl <;> omega
      rw[if_pos this]
    · rw[if_neg (by simpa using hl)]
      have: ¬ keyD b<keyD a:=by
        unfold plc at hl
        rw[ka,kb]
        split at hl <;> split at hl <;> split at he <;> (try split at he) <;> omega
      rw[if_neg this]
end
def bestK(key:Int->Int)(a b:Int):Int:=if key a<key b then b else a
theorem foldK{key:Int→Int}: ∀ (l:List Int) (x:Int),l.foldl (bestK key) x ∈ x::l∧ ∀ y ∈ x::l,key y≤key (l.foldl (bestK key) x)
  |[],x=>by simp
  | z ::l,x=>by
    obtain⟨h1,h2⟩:=foldK (key:=key) l (bestK key x z)
    simp only[List.foldl_cons]
    have hb:bestK key x z=x∨bestK key x z=z:=by unfold bestK;split;exact .inr rfl;exact .inl rfl
    have hk:key x<=key (bestK key x z)/\key z<=key (bestK key x z):=by unfold bestK;split <;> constructor <;> omega
    have hh:=h2 (bestK key x z) (by simp)
    refine⟨?_,λy hy=> ?_⟩
    · rcases List.mem_cons.1 h1 with e|e
      · rw[e];rcases hb with e|e <;> rw[e] <;> simp
      · simp[e]
    · rcases List.mem_cons.1 hy with rfl|hy
      · omega
      · rcases List.mem_cons.1 hy with rfl|hy
        · omega
        · exact h2 y (by simp[hy])
theorem foldK_same{key:Int→Int}{l m:List Int}{x y:Int}(hs: ∀ z,z ∈ x::l ↔ z ∈ y::m)(hi: ∀ a ∈ x::l,∀ b ∈ x::l,key a=key b→a=b):l.foldl (bestK key) x=m.foldl (bestK key) y:=by
  obtain⟨h1,h2⟩:=foldK (key:=key) l x
  obtain⟨g1,g2⟩:=foldK (key:=key) m y
  have k1:=h2 _ ((hs _).2 g1)
  have k2:=g2 _ ((hs _).1 h1)
  exact hi _ h1 _ ((hs _).2 g1) (by omega)
theorem sum_fold: ∀ (l:List Int) (x:Int),l.foldl (fun a b=>wk .i64 (a+b)) (wk .i64 x)=wk .i64 (x+l.sum)
  |[],x=>by simp
  | z::l,x=>by
    rw[List.foldl_cons,wk_add_l,sum_fold l (x+z),List.sum_cons,Int.add_assoc]
theorem prod_fold: ∀ (l:List Int) (x:Int),l.foldl (fun a b=>wk .i64 (a*b)) (wk .i64 x)=wk .i64 (x*prod l)
  |[],x=>by simp[prod]
  | z::l,x=>by
    rw[List.foldl_cons,wk_mul_l,prod_fold l (x*z)]
    simp only[prod,Int.mul_assoc]
end Go.Av
set_option linter.unusedVariables false
namespace Go.Av
theorem refNew_spec{fu:Nat}{k:Int}{d:List Int}(hd:Short d)(hf:d.length<fu):ref05_New fu k d=some (newV k d):=by
  unfold ref05_New newV
  rw[refKnown_spec,ob_some,refSize_spec hd hf,ob_some]
  by_cases hk:k=1∨k=7∨k=9
  · rw [if_pos (by simpa using hk),if_pos hk]
    simp only[sizeV]
    by_cases hg:Good d
    · simp only[if_pos hg,if_true]
      have h1:=prod_nonneg hg.2.1
      have h2:=hg.2.2
      have h3:=hg.1
      rw[chk_pos (by omega),chk_pos (by omega),chk_pos (by omega),chk_pos (by omega)]
      by_cases e1:k=1
      · rw[if_pos e1,if_pos e1]
      · rw[if_neg e1,if_neg e1]
        by_cases e2:k=7
        · rw[if_pos e2,if_pos e2]
        · rw[if_neg e2,if_neg e2]
    · simp only[if_neg hg]
      rw[if_neg (errS_ne d)]
      rfl
  · rw[if_neg (by simpa using hk),if_neg hk]
    rfl
theorem pick_loop{σ α β:Type}(st:List α→Nat→σ){B:(σ→Option β)→σ→Option β}{at_:List Int}(bad:Int→Bool)(pk:Int→α)(z:α){e:Option β}{c:List α→Option β}
    (hB: ∀ (next:σ->Option β) (k:Nat) (m:List α) (hk:k<at_.length),m.length=at_.length->B next (st m k)=if bad at_[k]=true then e else next (st (if 0<=at_[k]then m.set k (pk at_[k])else m) (k+1)))
    (hE: ∀ (next:σ->Option β) (m:List α),m.length=at_.length->B next (st m at_.length)=c m) (hz: ∀ a,¬ 0<=a->pk a=z) {fu:Nat} (hf:at_.length<fu):
    cloop B fu (st (List.replicate at_.length z) 0)=if at_.any bad=true then e else c (at_.map pk):=by
  have key : ∀ (f k:Nat),k≤at_.length→at_.length - k<f→cloop B f (st ((at_.take k).map pk++List.replicate (at_.length - k) z) k)=if(at_.drop k).any bad=true then e else c (at_.map pk):=by
    intro f
    induction f with
    |zero=>intro k _ h;omega
    | succ f ih=>
      intro k hk hf
      by_cases hkn:k=at_.length
      · subst hkn
        show B _ _=_
        have:=hE (cloop B f) ((at_.take at_.length).map pk++List.replicate (at_.length - at_.length) z) (by simp)
        rw[this]
        simp
      · have hk':k<at_.length:=by omega
        show B _ _=_
        rw[hB _ _ _ hk' (by simp;omega),List.drop_eq_getElem_cons hk',List.any_cons]
        by_cases hb:bad at_[k]=true
        · simp[hb]
        · rw [if_neg hb]
          have hm:(if 0≤at_[k]then((at_.take k).map pk++List.replicate (at_.length - k) z).set k (pk at_[k])else(at_.take k).map pk++List.replicate (at_.length - k) z)=(at_.take (k+1)).map pk++List.replicate (at_.length - (k+1)) z:=by
            have hr:List.replicate (at_.length - k) z=z::List.replicate (at_.length - (k+1)) z:=by rw[show at_.length - k=at_.length - (k+1)+1 by omega,List.replicate_succ]
            have ht:at_.take (k+1)=at_.take k++[at_[k]]:=by rw[List.take_add_one,List.getElem?_eq_getElem hk'];rfl
            have hlen:((at_.take k).map pk).length=k:=by simp;omega
            rw[hr,ht,List.map_append,List.append_assoc]
            split
            · rw[List.set_append_right _ _ (by omega),hlen,Nat.sub_self]
              rfl
            · rename_i h0
              rw[List.map_singleton,hz _ h0]
              rfl
          rw[hm,ih (k+1) (by omega) (by omega)]
          simp[hb]
  have:=key fu 0 (by omega) (by omega)
  simpa using this
def badP(N:Int)(x:Int):Bool:=decide (x< -1) || decide (N<=x)
def pkOf{α:Type}(src:List α)(z:α)(a:Int):α:=if 0<=a then src.getD a.toNat z else z
def pickV(t:T_Tensor)(d l:List Int):T_Tensor×Int:=
  if checkV t=0 then(if(newV t.fType d).2=0 then(if(l.length:Int)=prod d then(if l.any (badP (t.fF.length+t.fI.length+t.fB.length))=true then(noT,2)else
    (if t.fType=1 then⟨t.fType,d,l.map (pkOf t.fF 0),[],[]⟩else if t.fType=7 then⟨t.fType,d,[],l.map (pkOf t.fI 0),[]⟩else⟨t.fType,d,[],[],l.map (pkOf t.fB false)⟩,0))else(noT,3))else(noT,(newV t.fType d).2))else(noT,checkV t)
theorem at?_pk{α:Type}{src:List α}{z:α}{a:Int}(h0:0≤a)(h:a<src.length):at? src a=some (pkOf src z a):=by
  obtain⟨k,rfl⟩:=Int.eq_ofNat_of_zero_le h0
  rw[at?_get (by omega),pkOf,if_pos h0,List.getD_eq_getElem?_getD,Int.toNat_natCast,List.getElem?_eq_getElem (by omega)]
  rfl
theorem pkOf_neg{α:Type}{src:List α}{z:α}{a:Int}(h: ¬ 0<=a):pkOf src z a=z:=if_neg h
theorem newV_ok{k:Int}{d:List Int}(h:(newV k d).2=0):Known k∧Good d∧newV k d=(if k=1 then(⟨k,d,List.replicate (prod d).toNat 0,[],[]⟩,0)else if k=7 then(⟨k,d,[],List.replicate (prod d).toNat 0,[]⟩,0)else(⟨k,d,[],[],List.replicate (prod d).toNat false⟩,0)):=by
  unfold newV at h ⊢
  by_cases hk:k=1∨k=7∨k=9
  · rw[if_pos hk]at h ⊢
    by_cases hg:Good d
    · rw[if_pos hg]
      exact⟨hk,hg,rfl⟩
    · rw[if_neg hg]at h
      exact absurd h (errS_ne d)
  · rw[if_neg hk]at h
    cases h
theorem sumW{a b c:Nat}(h1:a≤140737488355328)(h2:b≤140737488355328)(h3:c≤140737488355328):wk .i64 ((wk .i64 ((a:Int)+(b:Int)))+(c:Int))=(a:Int)+b+c:=by
  rw[wk_add_l,wk_eq (by omega) (by omega)]
theorem refPick_spec{fu:Nat}{t:T_Tensor}{d l:List Int}(hs:Small t)(hf:Fuel fu t)(hd:Short d)(hfd:d.length<fu)(hl:Short l)(hfl:l.length<fu):ref05_Pick fu t d l=some (pickV t d l):=by
  unfold ref05_Pick pickV
  rw[refCheck_spec hs hf,ob_some]
  by_cases hc:checkV t=0
  · rw [if_pos hc,if_pos hc,refNew_spec hd hfd,ob_some]
    obtain⟨_,hg0,hlen⟩:=checkV_zero.1 hc
    obtain⟨s1,s2,s3,s4⟩:=hs
    by_cases hn:(newV t.fType d).2=0
    · obtain ⟨hk,hg,e⟩:=newV_ok hn
      rw[if_pos hn,if_pos hn,refSize_spec hd hfd,ob_some]
      have hpn:=prod_nonneg hg.2.1
      have hp4:=hg.2.2
      unfold Short at hl
      simp only[sizeV,if_pos hg]
      by_cases hll:(l.length:Int)=prod d
      · rw [if_pos hll,if_pos hll]
        have hnl:(prod d).toNat=l.length:=by omega
        have hN:wk .i64 ((wk .i64 ((t.fF.length:Int)+(t.fI.length:Int)))+(t.fB.length:Int))=t.fF.length+t.fI.length+t.fB.length:=sumW (by omega) (by omega) (by omega)
        obtain⟨l1,l2,l3⟩:=hlen
        have hbad: ∀ {k:Nat} (hk:k<l.length) {R:Option (T_Tensor×Int)},(if l[k]< -1 then some (noT,(2:Int))else if(t.fF.length:Int)+t.fI.length+t.fB.length≤l[k]then some (noT,2)else R)=if badP (t.fF.length+t.fI.length+t.fB.length) l[k]=true then some (noT,2)else R:=fun {k} hk {R}=>by
          unfold badP
          by_cases h1:l[k]< -1
          · simp[h1]
          · by_cases h2:(t.fF.length:Int)+t.fI.length+t.fB.length<=l[k] <;> simp[h1,h2]
        have hwrap: ∀ {a b:T_Tensor×Int},(if(l.any (badP (t.fF.length+t.fI.length+t.fB.length))=true)then(some a)else some b)=some (if(l.any (badP (t.fF.length+t.fI.length+t.fB.length))=true)then a else b):=λ {a b}=>by split <;> rfl
        rcases hk with e1|e1|e1
        · rw [e1]at e
          simp only[if_true]at e
          simp only[e1,e,if_true,show ¬ (1:Int)=7 by decide,show ¬ (1:Int)=9 by decide,if_false,hnl]at l1 l2 l3 ⊢
          unfold ref05_Pick.W1
          refine(pick_loop (λ(m:List Int) (k:Nat)=>(m,([]:List Int),([]:List Bool),(k:Int))) (badP (t.fF.length+t.fI.length+t.fB.length)) (pkOf t.fF 0) 0 (e:=some (noT,2)) (c:=λm=>some (⟨1,d,m,[],[]⟩,0)) ?_ ?_ (λa=>pkOf_neg) hfl).trans hwrap
          · intro next k m hk hm
            unfold ref05_Pick.L1;try unfold jn
            simp only[]
            rw[hN,if_pos (by omega),at?_get hk,ob_some]
            refine Eq.trans (hbad hk) ?_
            by_cases hb:badP (t.fF.length+t.fI.length+t.fB.length) l[k]=true
            · rw[if_pos hb,if_pos hb]
            · rw[if_neg hb,if_neg hb]
              unfold ref05_Pick.k1 ref05_Pick.c2 jc
              have hnb: -1≤l[k]∧l[k]<(t.fF.length:Int)+t.fI.length+t.fB.length:=by
                simp only[badP,Bool.or_eq_true,decide_eq_true_eq]at hb;omega
              simp only[Int.toNat_natCast]
              rw[at?_get hk,ob_some,wk_succ (by omega)]
              by_cases ha:0<=l[k]
              · rw[if_pos ha,if_pos ha,if_pos trivial,at?_pk (z:=0) ha (by omega),ob_some,chk_pos (by omega),chk_pos (by simp),chk_pos trivial,chk_pos trivial]
              · rw[if_neg ha,if_neg ha]
          · intro next m hm
            unfold ref05_Pick.L1;try unfold jn
            rw[if_neg (by simp only[];omega)]
        · rw [e1]at e
          simp only[show ¬ (7:Int)=1 by decide,if_false,if_true]at e
          simp only[e1,e,if_true,show ¬ (7:Int)=1 by decide,show ¬ (7:Int)=9 by decide,if_false,hnl]at l1 l2 l3 ⊢
          unfold ref05_Pick.W1
          refine(pick_loop (λ(m:List Int) (k:Nat)=>(([]:List Int),m,([]:List Bool),(k:Int))) (badP (t.fF.length+t.fI.length+t.fB.length)) (pkOf t.fI 0) 0 (e:=some (noT,2)) (c:=λm=>some (⟨7,d,[],m,[]⟩,0)) ?_ ?_ (λa=>pkOf_neg) hfl).trans hwrap
          · intro next k m hk hm
            unfold ref05_Pick.L1;try unfold jn
            simp only[]
            rw[hN,if_pos (by omega),at?_get hk,ob_some]
            refine Eq.trans (hbad hk) ?_
            by_cases hb:badP (t.fF.length+t.fI.length+t.fB.length) l[k]=true
            · rw[if_pos hb,if_pos hb]
            · rw[if_neg hb,if_neg hb]
              unfold ref05_Pick.k1 ref05_Pick.c2 jc
              have hnb: -1≤l[k]∧l[k]<(t.fF.length:Int)+t.fI.length+t.fB.length:=by
                simp only[badP,Bool.or_eq_true,decide_eq_true_eq]at hb;omega
              simp only[Int.toNat_natCast]
              rw[at?_get hk,ob_some,wk_succ (by omega)]
              by_cases ha:0<=l[k]
              · rw[if_pos ha,if_pos ha,if_neg (by decide),if_pos trivial,at?_pk (z:=0) ha (by omega),ob_some,chk_pos (by omega),chk_pos trivial,chk_pos (by simp),chk_pos trivial]
              · rw[if_neg ha,if_neg ha]
          · intro next m hm
            unfold ref05_Pick.L1;try unfold jn
            rw[if_neg (by simp only[];omega)]
        · rw [e1]at e
          simp only[show ¬ (9:Int)=1 by decide,show ¬ (9:Int)=7 by decide,if_false]at e
          simp only[e1,e,if_true,show ¬ (9:Int)=1 by decide,show ¬ (9:Int)=7 by decide,if_false,hnl]at l1 l2 l3 ⊢
          unfold ref05_Pick.W1
          refine(pick_loop (λ(m:List Bool) (k:Nat)=>(([]:List Int),([]:List Int),m,(k:Int))) (badP (t.fF.length+t.fI.length+t.fB.length)) (pkOf t.fB false) false (e:=some (noT,2)) (c:=λm=>some (⟨9,d,[],[],m⟩,0)) ?_ ?_ (λa=>pkOf_neg) hfl).trans hwrap
          · intro next k m hk hm
            unfold ref05_Pick.L1;try unfold jn
            simp only[]
            rw[hN,if_pos (by omega),at?_get hk,ob_some]
            refine Eq.trans (hbad hk) ?_
            by_cases hb:badP (t.fF.length+t.fI.length+t.fB.length) l[k]=true
            · rw[if_pos hb,if_pos hb]
            · rw[if_neg hb,if_neg hb]
              unfold ref05_Pick.k1 ref05_Pick.c2 jc
              have hnb: -1≤l[k]∧l[k]<(t.fF.length:Int)+t.fI.length+t.fB.length:=by
                simp only[badP,Bool.or_eq_true,decide_eq_true_eq]at hb;omega
              simp only[Int.toNat_natCast]
              rw[at?_get hk,ob_some,wk_succ (by omega)]
              by_cases ha:0<=l[k]
              · rw[if_pos ha,if_pos ha,if_neg (by decide),if_neg (by decide),at?_pk (z:=false) ha (by omega),ob_some,chk_pos (by omega),chk_pos trivial,chk_pos trivial,chk_pos (by simp)]
              · rw[if_neg ha,if_neg ha]
          · intro next m hm
            unfold ref05_Pick.L1;try unfold jn
            rw[if_neg (by simp only[];omega)]
      · rw[if_neg hll,if_neg hll];rfl
    · rw[if_neg hn,if_neg hn];rfl
  · rw[if_neg hc,if_neg hc];rfl
end Go.Av
set_option linter.unusedVariables false
namespace Go.Av
theorem fold32_spec{fu:Nat}{p:Int→Int→Option Int}{f:Int→Int→Int}{Q:Int→Prop}(hp: ∀ a b,Q a→Q b→p a b=some (f a b)∧Q (f a b)){l:List Int}{x:Int}(hx:Q x)(hl: ∀ y ∈ l,Q y)(hn:l.length≤4096)(hf:5000<fu):
    reduce_fold_uint32 fu l x p=some (l.foldl f x):=by
  have hq: ∀ k,Q ((l.take k).foldl f x):=fun k=>by
    have: ∀ (m:List Int) (y:Int),Q y→(∀ z ∈ m,Q z)→Q (m.foldl f y):=by
      intro m
      induction m with
      |nil=>intro y hy _;exact hy
      |cons z m ih=>intro y hy hm;exact ih _ (hp y z hy (hm z (by simp))).2 λw hw=>hm w (by simp[hw])
    exact this _ _ hx λz hz=>hl z (List.mem_of_mem_take hz)
  unfold reduce_fold_uint32 reduce_fold_uint32.W1
  refine cloop_up (body:=λnext s=>reduce_fold_uint32.L1 fu p l (λx5 x6=>next (x5,x6)) s.1 s.2) l.length (λk:Nat=>(l.take k).foldl f x) _ ?_ ?_ (by omega)
  · intro k hk next hn2
    show reduce_fold_uint32.L1 fu p l _ ((l.take k).foldl f x) (k:Int)=_
    have e:l.take (k+1)=l.take k++[l[k]]:=by rw[List.take_add_one,List.getElem?_eq_getElem hk];rfl
    rw[e,List.foldl_append]at hn2
    unfold reduce_fold_uint32.L1
    rw[if_pos (by omega),at?_get hk,ob_some,(hp _ _ (hq k) (hl _ (List.getElem_mem hk))).1,ob_some,wk_succ (by omega)]
    exact hn2
  · intro next
    show reduce_fold_uint32.L1 fu p l _ ((l.take l.length).foldl f x) (l.length:Int)=_
    unfold reduce_fold_uint32.L1
    rw[if_neg (by omega),List.take_length]
theorem fold64_spec{fu:Nat}{p:Int→Int→Option Int}{f:Int→Int→Int}(hp: ∀ a b,p a b=some (f a b)){l:List Int}{x:Int}(hn:l.length≤4096)(hf:5000<fu):
    reduce_fold_int64 fu l x p=some (l.foldl f x):=by
  unfold reduce_fold_int64 reduce_fold_int64.W1
  refine cloop_up (body:=λnext s=>reduce_fold_int64.L1 fu p l (λx5 x6=>next (x5,x6)) s.1 s.2) l.length (λk:Nat=>(l.take k).foldl f x) _ ?_ ?_ (by omega)
  · intro k hk next hn2
    show reduce_fold_int64.L1 fu p l _ ((l.take k).foldl f x) (k:Int)=_
    have e:l.take (k+1)=l.take k++[l[k]]:=by rw[List.take_add_one,List.getElem?_eq_getElem hk];rfl
    rw[e,List.foldl_append]at hn2
    unfold reduce_fold_int64.L1
    rw[if_pos (by omega),at?_get hk,ob_some,hp,ob_some,wk_succ (by omega)]
    exact hn2
  · intro next
    show reduce_fold_int64.L1 fu p l _ ((l.take l.length).foldl f x) (l.length:Int)=_
    unfold reduce_fold_int64.L1
    rw[if_neg (by omega),List.take_length]
def keyM(x:Int):Int:= -keyD x
def keyN(x:Int):Int:= -x
def pickK(key:Int->Int)(l:List Int):Int:=l.tail.foldl (bestK key) (l.headD 0)
theorem pickK_rev{key:Int→Int}{l:List Int}(hi: ∀ a ∈ l,∀ b ∈ l,key a=key b→a=b)(h0:l≠[]):pickK key l.reverse=pickK key l:=by
  obtain⟨x,m,rfl⟩: ∃ x m,l=x::m:=by cases l with|nil=>exact absurd rfl h0|cons x m=>exact⟨x,m,rfl⟩
  obtain⟨y,k,hy⟩: ∃ y k,(x::m).reverse=y::k:=by
    cases h:(x::m).reverse with
    |nil=>simp at h
    |cons y k=>exact⟨y,k,rfl⟩
  unfold pickK
  rw[hy]
  simp only[List.tail_cons,List.headD_cons]
  refine(foldK_same (λz=> ?_) hi).symm
  rw[← hy,List.mem_reverse]
theorem maxW_best:maxW=bestK keyU:=rfl
theorem minW_best:minW=bestK keyM:=by
  funext a b
  unfold minW bestK keyM
  by_cases h:keyD b<keyD a
  · rw[if_pos h,if_pos (by omega)]
  · rw[if_neg h,if_neg (by omega)]
theorem imax_best:imax=bestK id:=rfl
theorem imin_best:imin=bestK keyN:=by
  funext a b
  unfold imin bestK keyN
  by_cases h:b<a
  · rw[if_pos h,if_pos (by omega)]
  · rw[if_neg h,if_neg (by omega)]
section
variable {fu:Nat} {l:List Int}
theorem bestK_wd{key:Int->Int}{a b:Int}(ha:Wd a)(hb:Wd b):Wd (bestK key a b):=by unfold bestK;split;exact hb;exact ha
theorem floats_67(h0:l≠[])(hw: ∀ x ∈ l,Wd x)(hn:l.length≤4096)(hf:5000<fu):reduce_floatOf_1 fu l=some (pickK keyU l):=by
  obtain⟨x,m,rfl⟩: ∃ x m,l=x::m:=by cases l with|nil=>exact absurd rfl h0|cons x m=>exact⟨x,m,rfl⟩
  unfold reduce_floatOf_1
  have e:subN (x::m) (1:Int).toNat (x::m).length=m:=by simp[subN]
  have e0:at? (x::m) 0=some x:=rfl
  simp at hn
  rw[chk_pos (by simp;omega),e0,ob_some,e,fold32_spec (Q:=Wd) (f:=maxW) (λa b ha hb=>⟨Max_spec ha hb,bestK_wd ha hb⟩) (hw x (by simp)) (λy hy=>hw y (by simp[hy])) (by omega) hf,ob_some,maxW_best]
  rfl
theorem floats_68(h0:l≠[])(hw: ∀ x ∈ l,Wd x)(hn:l.length≤4096)(hf:5000<fu):reduce_floatOf_2 fu l=some (pickK keyM l):=by
  obtain⟨x,m,rfl⟩: ∃ x m,l=x::m:=by cases l with|nil=>exact absurd rfl h0|cons x m=>exact⟨x,m,rfl⟩
  unfold reduce_floatOf_2
  have e:subN (x::m) (1:Int).toNat (x::m).length=m:=by simp[subN]
  have e0:at? (x::m) 0=some x:=rfl
  simp at hn
  rw[chk_pos (by simp;omega),e0,ob_some,e,fold32_spec (Q:=Wd) (f:=minW) (λa b ha hb=>⟨Min_spec ha hb,by rw[minW_best];exact bestK_wd ha hb⟩) (hw x (by simp)) (λy hy=>hw y (by simp[hy])) (by omega) hf,ob_some,minW_best]
  rfl
theorem best_first{key:Int→Int}{x:Int}{m:List Int}:(x::m).foldl (bestK key) x=pickK key (x::m):=by
  have:bestK key x x=x:=by unfold bestK;split <;> rfl
  rw[List.foldl_cons,this];rfl
theorem ints_67(h0:l≠[])(hn:l.length≤4096)(hf:5000<fu):reduce_intOf_2 fu l=some (pickK id l):=by
  obtain⟨x,m,rfl⟩: ∃ x m,l=x::m:=by cases l with|nil=>exact absurd rfl h0|cons x m=>exact⟨x,m,rfl⟩
  unfold reduce_intOf_2
  have e0:at? (x::m) 0=some x:=rfl
  rw[e0,ob_some,fold64_spec (p:=λy0 y1=>reduce_intOf_2_1 fu y0 y1) (f:=imax) (λa b=>rfl) hn hf,ob_some,imax_best,best_first]
theorem ints_68(h0:l≠[])(hn:l.length≤4096)(hf:5000<fu):reduce_intOf_3 fu l=some (pickK keyN l):=by
  obtain⟨x,m,rfl⟩: ∃ x m,l=x::m:=by cases l with|nil=>exact absurd rfl h0|cons x m=>exact⟨x,m,rfl⟩
  unfold reduce_intOf_3
  have e0:at? (x::m) 0=some x:=rfl
  rw[e0,ob_some,fold64_spec (p:=λy0 y1=>reduce_intOf_3_1 fu y0 y1) (f:=imin) (λa b=>rfl) hn hf,ob_some,imin_best,best_first]
theorem ints_65(hn:l.length≤4096)(hf:5000<fu):reduce_intOf_1 fu l=some (wk .i64 l.sum):=by
  unfold reduce_intOf_1
  rw[fold64_spec (p:=λy0 y1=>reduce_intOf_1_1 fu y0 y1) (f:=λa b=>wk .i64 (a+b)) (λa b=>rfl) hn hf,ob_some]
  have:=sum_fold l 0
  rw[show wk .i64 0=0 from rfl,Int.zero_add]at this
  rw[this]
theorem ints_69(hn:l.length≤4096)(hf:5000<fu):reduce_intOf_4 fu l=some (wk .i64 (prod l)):=by
  unfold reduce_intOf_4
  rw[fold64_spec (p:=λy0 y1=>reduce_intOf_4_1 fu y0 y1) (f:=λa b=>wk .i64 (a*b)) (λa b=>rfl) hn hf,ob_some]
  have:=prod_fold l 1
  rw[show wk .i64 1=1 from rfl,Int.one_mul]at this
  rw[this]
theorem sum_rev:l.reverse.sum=l.sum:=by
  induction l with
  |nil=>rfl
  |cons x m ih=>simp only[List.reverse_cons,List.sum_append,List.sum_cons,List.sum_nil,ih];omega
theorem prod_rev:prod l.reverse=prod l:=by
  have: ∀ a b:List Int,prod (a++b)=prod a*prod b:=by
    intro a b
    induction a with
    |nil=>simp[prod]
    |cons x m ih=>simp only[List.cons_append,prod,ih,Int.mul_assoc]
  induction l with
  |nil=>rfl
  |cons x m ih=>simp only[List.reverse_cons,this,prod,ih,Int.mul_one];rw[Int.mul_comm]
def floT(l:List Int):T_Tensor:=⟨1,[(l.length:Int)],l,[],[]⟩
def rowT(l:List Int):T_Tensor:=⟨7,[(l.length:Int)],[],l,[]⟩
def booT(l:List Bool):T_Tensor:=⟨9,[(l.length:Int)],[],[],l⟩
theorem newV_1:newV 1 []=(⟨1,[],[0],[],[]⟩,0):=by
  have hg:Good []:=⟨by simp,(by intro z hz;cases hz),by simp[prod]⟩
  unfold newV
  rw[if_pos (by decide),if_pos hg]
  rfl
theorem newV_7:newV 7 []=(⟨7,[],[],[0],[]⟩,0):=by
  have hg:Good []:=⟨by simp,(by intro z hz;cases hz),by simp[prod]⟩
  unfold newV
  rw[if_pos (by decide),if_pos hg]
  rfl
theorem canon_row:canonT (rowT l)=rowT l:=rfl
theorem canon_flo:canonT (floT l)=floT (l.map canonF):=by simp[canonT,floT]
theorem k_67i(h0:l≠[])(hn:l.length≤4096)(hf:6000<fu):reduce_Do.k2 fu (rowT l) (newV 7 []) [(l.length:Int)] [] [1] []=some (⟨7,[],[],[pickK id l],[]⟩,0):=by
  unfold reduce_Do.k2
  rw[places_1 hn (by omega),ob_some,rows_1 hn (by omega),ob_some,newV_7]
  unfold lloop
  show reduce_Do.R1 fu (rowT l) (⟨7,[],[],[0],[]⟩,0) _ 0 (seqI l.length) [] [0]=_
  unfold reduce_Do.R1
  rw[chk_pos rfl,chk_pos rfl,if_neg (show ¬ (rowT l).fType=1 from(by decide: ¬ (7:Int)=1))]
  show(reduce_at_int64 fu l (seqI l.length)).bind _=_
  rw[at64_all hn (by omega),ob_some,ints_67 h0 hn (by omega),ob_some]
  rfl
theorem k_68i(h0:l≠[])(hn:l.length≤4096)(hf:6000<fu):reduce_Do.k4 fu (rowT l) (newV 7 []) [(l.length:Int)] [] [1] []=some (⟨7,[],[],[pickK keyN l],[]⟩,0):=by
  unfold reduce_Do.k4
  rw[places_1 hn (by omega),ob_some,rows_1 hn (by omega),ob_some,newV_7]
  unfold lloop
  show reduce_Do.R2 fu (rowT l) (⟨7,[],[],[0],[]⟩,0) _ 0 (seqI l.length) [] [0]=_
  unfold reduce_Do.R2
  rw[chk_pos rfl,chk_pos rfl,if_neg (show ¬ (rowT l).fType=1 from(by decide: ¬ (7:Int)=1))]
  show(reduce_at_int64 fu l (seqI l.length)).bind _=_
  rw[at64_all hn (by omega),ob_some,ints_68 h0 hn (by omega),ob_some]
  rfl
theorem k_65i(hn:l.length≤4096)(hf:6000<fu):reduce_Do.k6 fu (rowT l) (newV 7 []) [(l.length:Int)] [] [1] []=some (⟨7,[],[],[wk .i64 l.sum],[]⟩,0):=by
  unfold reduce_Do.k6
  rw[places_1 hn (by omega),ob_some,rows_1 hn (by omega),ob_some,newV_7]
  unfold lloop
  show reduce_Do.R3 fu (rowT l) (⟨7,[],[],[0],[]⟩,0) _ 0 (seqI l.length) [0]=_
  unfold reduce_Do.R3
  rw[chk_pos rfl,if_neg (show ¬ (rowT l).fType=1 from(by decide: ¬ (7:Int)=1))]
  show(reduce_at_int64 fu l (seqI l.length)).bind _=_
  rw[at64_all hn (by omega),ob_some,ints_65 hn (by omega),ob_some]
  rfl
theorem k_69i(hn:l.length≤4096)(hf:6000<fu):reduce_Do.k8 fu (rowT l) (newV 7 []) [(l.length:Int)] [] [1] []=some (⟨7,[],[],[wk .i64 (prod l)],[]⟩,0):=by
  unfold reduce_Do.k8
  rw[places_1 hn (by omega),ob_some,rows_1 hn (by omega),ob_some,newV_7]
  unfold lloop
  show reduce_Do.R4 fu (rowT l) (⟨7,[],[],[0],[]⟩,0) _ 0 (seqI l.length) [0]=_
  unfold reduce_Do.R4
  rw[chk_pos rfl,if_neg (show ¬ (rowT l).fType=1 from(by decide: ¬ (7:Int)=1))]
  show(reduce_at_int64 fu l (seqI l.length)).bind _=_
  rw[at64_all hn (by omega),ob_some,ints_69 hn (by omega),ob_some]
  rfl
theorem k_67f(h0:l≠[])(hw: ∀ x ∈ l,Wd x)(hn:l.length≤4096)(hf:6000<fu):reduce_Do.k2 fu (floT l) (newV 1 []) [(l.length:Int)] [] [1] []=some (⟨1,[],[pickK keyU l],[],[]⟩,0):=by
  unfold reduce_Do.k2
  rw[places_1 hn (by omega),ob_some,rows_1 hn (by omega),ob_some,newV_1]
  unfold lloop
  show reduce_Do.R1 fu (floT l) (⟨1,[],[0],[],[]⟩,0) _ 0 (seqI l.length) [0] []=_
  unfold reduce_Do.R1
  rw[chk_pos rfl,chk_pos rfl,if_pos (show(floT l).fType=1 from rfl)]
  show(reduce_at_uint32 fu l (seqI l.length)).bind _=_
  rw[at32_all hn (by omega),ob_some,floats_67 h0 hw hn (by omega),ob_some]
  rfl
theorem k_68f(h0:l≠[])(hw: ∀ x ∈ l,Wd x)(hn:l.length≤4096)(hf:6000<fu):reduce_Do.k4 fu (floT l) (newV 1 []) [(l.length:Int)] [] [1] []=some (⟨1,[],[pickK keyM l],[],[]⟩,0):=by
  unfold reduce_Do.k4
  rw[places_1 hn (by omega),ob_some,rows_1 hn (by omega),ob_some,newV_1]
  unfold lloop
  show reduce_Do.R2 fu (floT l) (⟨1,[],[0],[],[]⟩,0) _ 0 (seqI l.length) [0] []=_
  unfold reduce_Do.R2
  rw[chk_pos rfl,chk_pos rfl,if_pos (show(floT l).fType=1 from rfl)]
  show(reduce_at_uint32 fu l (seqI l.length)).bind _=_
  rw[at32_all hn (by omega),ob_some,floats_68 h0 hw hn (by omega),ob_some]
  rfl
end
end Go.Av
set_option linter.unusedVariables false
namespace Go.Av
section
variable {fu:Nat}
theorem rowT_ten{l:List Int}(hn:l.length<=4096):Ten (rowT l):=⟨by simp[rowT],by simp[rowT],by show l.length*8<=_;omega,by simp[rowT],λx hx=>by cases hx⟩
theorem rowT_fuel{l:List Int}(hn:l.length<=4096)(hf:5000<fu):Fuel fu (rowT l):=⟨by show 1<fu;omega,by show 0<fu;omega,by show l.length<fu;omega,by show 0<fu;omega⟩
theorem rowT_check{l:List Int}(hn:l.length<=4096):checkV (rowT l)=0:=checkV_zero.2 ⟨.inr (.inl rfl),good_n hn,by simp[LensOK,prod,rowT]⟩
theorem floT_ten{l:List Int}(hn:l.length<=4096)(hw: ∀ x ∈ l,0<=x/\x<4294967296):Ten (floT l):=⟨by simp[floT],by show l.length*4<=_;omega,by simp[floT],by simp[floT],hw⟩
theorem floT_fuel{l:List Int}(hn:l.length<=4096)(hf:5000<fu):Fuel fu (floT l):=⟨by show 1<fu;omega,by show l.length<fu;omega,by show 0<fu;omega,by show 0<fu;omega⟩
theorem floT_check{l:List Int}(hn:l.length<=4096):checkV (floT l)=0:=checkV_zero.2 ⟨.inl rfl,good_n hn,by simp[LensOK,prod,floT]⟩
theorem booT_ten{l:List Bool}(hn:l.length<=4096):Ten (booT l):=⟨by simp[booT],by simp[booT],by simp[booT],by show l.length<=_;omega,λx hx=>by cases hx⟩
theorem booT_fuel{l:List Bool}(hn:l.length<=4096)(hf:5000<fu):Fuel fu (booT l):=⟨by show 1<fu;omega,by show 0<fu;omega,by show 0<fu;omega,by show l.length<fu;omega⟩
theorem booT_check{l:List Bool}(hn:l.length<=4096):checkV (booT l)=0:=checkV_zero.2 ⟨.inr (.inr rfl),good_n hn,by simp[LensOK,prod,booT]⟩
def OpR(o:Int):Prop:=o=67∨o=68∨o=65∨o=69
theorem Do_boo{l:List Bool}{o:Int}(ho:OpR o)(hn:l.length≤4096)(hf:7000<fu):reduce_Do fu o setR [booT l]=some (noT,5):=by
  obtain⟨f,rfl⟩: ∃ f,fu=f+4:=⟨fu - 4,by omega⟩
  have h1:=booT_ten hn
  have h2:=booT_fuel (fu:=f+4) hn (by omega)
  have h3:=booT_check hn
  rcases ho with rfl|rfl|rfl|rfl
  · rw[head_67 h1 h2 h3 rfl hn (by omega),if_pos (show(booT l).fType=9 from rfl)]
  · rw[head_68 h1 h2 h3 rfl hn (by omega),if_pos (show(booT l).fType=9 from rfl)]
  · rw[head_65 h1 h2 h3 rfl hn (by omega),if_pos (show(booT l).fType=9 from rfl)]
  · rw[head_69 h1 h2 h3 rfl hn (by omega),if_pos (show(booT l).fType=9 from rfl)]
def rI(o:Int)(l:List Int):T_Tensor×Int:=
  if o=67 then(if l=[]then(noT,3)else(⟨7,[],[],[pickK id l],[]⟩,0))else if o=68 then(if l=[]then(noT,3)else(⟨7,[],[],[pickK keyN l],[]⟩,0))else
  if o=65 then(⟨7,[],[],[wk .i64 l.sum],[]⟩,0)else(⟨7,[],[],[wk .i64 (prod l)],[]⟩,0)
theorem len_ne{α:Type}{l:List α}(h:l≠[]):l.length≠0:=λh2=>h (List.length_eq_zero_iff.1 h2)
theorem Do_row{l:List Int}{o:Int}(ho:OpR o)(hn:l.length≤4096)(hf:7000<fu):reduce_Do fu o setR [rowT l]=some (rI o l):=by
  obtain⟨f,rfl⟩: ∃ f,fu=f+4:=⟨fu - 4,by omega⟩
  have h1:=rowT_ten hn
  have h2:=rowT_fuel (fu:=f+4) hn (by omega)
  have h3:=rowT_check hn
  have h9: ¬ (rowT l).fType=9:=(by decide: ¬ (7:Int)=9)
  rcases ho with rfl|rfl|rfl|rfl
  · rw[head_67 h1 h2 h3 rfl hn (by omega),if_neg h9,canon_row]
    by_cases h0:l=[]
    · subst h0;rw[if_pos (show([]:List Int).length=0 from rfl)];rfl
    · rw[if_neg (len_ne h0)]
      show reduce_Do.k2 (f+4) (rowT l) (newV 7 []) _ _ _ _=_
      rw[k_67i h0 hn (by omega)]
      unfold rI;rw[if_pos rfl,if_neg h0]
  · rw[head_68 h1 h2 h3 rfl hn (by omega),if_neg h9,canon_row]
    by_cases h0:l=[]
    · subst h0;rw[if_pos (show([]:List Int).length=0 from rfl)];rfl
    · rw[if_neg (len_ne h0)]
      show reduce_Do.k4 (f+4) (rowT l) (newV 7 []) _ _ _ _=_
      rw[k_68i h0 hn (by omega)]
      unfold rI;rw[if_neg (by decide),if_pos rfl,if_neg h0]
  · rw[head_65 h1 h2 h3 rfl hn (by omega),if_neg h9,canon_row,if_neg (fun h=>h.2.elim)]
    show reduce_Do.k6 (f+4) (rowT l) (newV 7 []) _ _ _ _=_
    rw[k_65i hn (by omega)]
    rfl
  · rw[head_69 h1 h2 h3 rfl hn (by omega),if_neg h9,canon_row,if_neg (fun h=>h.2.elim)]
    show reduce_Do.k8 (f+4) (rowT l) (newV 7 []) _ _ _ _=_
    rw[k_69i hn (by omega)]
    rfl
theorem rI_rev{o:Int}{l:List Int}:rI o l.reverse=rI o l:=by
  by_cases h0:l=[]
  · subst h0;rfl
  · have h1: ¬ l.reverse=[]:=by simpa using h0
    unfold rI
    rw[if_neg h1,if_neg h1,if_neg h0,if_neg h0,pickK_rev (key:=id) (λa _ b _ h=>h) h0,pickK_rev (key:=keyN) (λa _ b _ h=>by unfold keyN at h;omega) h0,sum_rev,prod_rev]
def rF(o:Int)(l:List Int):T_Tensor×Int:=
  if l=[]then(noT,3)else if o=67 then(⟨1,[],[pickK keyU (l.map canonF)],[],[]⟩,0)else(⟨1,[],[pickK keyM (l.map canonF)],[],[]⟩,0)
theorem Do_flo{l:List Int}{o:Int}(ho:o=67∨o=68)(hw: ∀ x ∈ l,0≤x∧x<4294967296)(hn:l.length≤4096)(hf:7000<fu):reduce_Do fu o setR [floT l]=some (rF o l):=by
  obtain⟨f,rfl⟩: ∃ f,fu=f+4:=⟨fu - 4,by omega⟩
  have h1:=floT_ten hn hw
  have h2:=floT_fuel (fu:=f+4) hn (by omega)
  have h3:=floT_check hn
  have h9: ¬ (floT l).fType=9:=(by decide: ¬ (1:Int)=9)
  have hwd: ∀ x ∈ l.map canonF,Wd x:=fun x hx=>by
    obtain⟨y,hy,rfl⟩:=List.mem_map.1 hx
    obtain⟨a,b⟩:=hw y hy
    exact canon_wd a b
  have hl:(l.map canonF).length=l.length:=by simp
  rcases ho with rfl|rfl
  · rw[head_67 h1 h2 h3 rfl hn (by omega),if_neg h9,canon_flo]
    by_cases h0:l=[]
    · subst h0;rw[if_pos (show([]:List Int).length=0 from rfl)];rfl
    · rw[if_neg (len_ne h0)]
      have:=k_67f (fu:=f+4) (l:=l.map canonF) (by simpa using h0) hwd (by omega) (by omega)
      rw[hl]at this
      show reduce_Do.k2 (f+4) (floT (l.map canonF)) (newV 1 []) _ _ _ _=_
      rw[this]
      unfold rF;rw[if_neg h0,if_pos rfl]
  · rw[head_68 h1 h2 h3 rfl hn (by omega),if_neg h9,canon_flo]
    by_cases h0:l=[]
    · subst h0;rw[if_pos (show([]:List Int).length=0 from rfl)];rfl
    · rw[if_neg (len_ne h0)]
      have:=k_68f (fu:=f+4) (l:=l.map canonF) (by simpa using h0) hwd (by omega) (by omega)
      rw[hl]at this
      show reduce_Do.k4 (f+4) (floT (l.map canonF)) (newV 1 []) _ _ _ _=_
      rw[this]
      unfold rF;rw[if_neg h0,if_neg (by decide)]
theorem rF_rev{o:Int}{l:List Int}(hw: ∀ x ∈ l,0≤x∧x<4294967296):rF o l.reverse=rF o l:=by
  unfold rF
  have hwd: ∀ x ∈ l.map canonF,Wd x:=fun x hx=>by
    obtain⟨y,hy,rfl⟩:=List.mem_map.1 hx
    obtain⟨a,b⟩:=hw y hy
    exact canon_wd a b
  by_cases h0:l=[]
  · subst h0;rfl
  · have h1: ¬ l.reverse=[]:=by simpa using h0
    rw[if_neg h1,if_neg h0,List.map_reverse,pickK_rev (key:=keyU) (λa ha b hb h=>keyU_inj (hwd a ha) (hwd b hb) h) (by simpa using h0),pickK_rev (key:=keyM) (λa ha b hb h=>keyD_inj (hwd a ha) (hwd b hb) (by unfold keyM at h;omega)) (by simpa using h0)]
def downI:Nat→List Int
  |0=>[]
  |k+1=>(k:Int)::downI k
theorem downI_length: ∀ {n:Nat},(downI n).length=n
  |0=>rfl
  |n+1=>by simp[downI,downI_length]
theorem downI_mem: ∀ {n:Nat} {x:Int},x ∈ downI n→0≤x∧x<n
  |0,x,h=>by cases h
  | n+1,x,h=>by
    rcases List.mem_cons.1 h with rfl|h
    · omega
    · have:=downI_mem h;omega
theorem down_pk{α:Type}{z:α}: ∀ {l:List α} {k:Nat},k≤l.length→(downI k).map (pkOf l z)=(l.take k).reverse
  |l,0,_=>by simp[downI]
  | l,k+1,h=>by
    have hk:k<l.length:=by omega
    rw[List.take_add_one,List.getElem?_eq_getElem hk]
    simp only[downI,List.map_cons,down_pk (l:=l) (k:=k) (by omega),Option.toList_some,List.reverse_append,List.reverse_cons,List.reverse_nil,List.nil_append,List.singleton_append]
    congr 1
    unfold pkOf
    rw[if_pos (by omega)]
    simp[hk]
theorem turned_loop{t:T_Tensor}{n:Nat}(hn:n≤4096)(hf:5000<fu):law13_turned.W1 fu t [] ((n:Int) - 1)=law13_turned.k1 fu t (downI n):=by
  unfold law13_turned.W1
  have key: ∀ (k m:Nat) (acc:List Int),acc.length+k=n→k<m→cloop (fun next s=>law13_turned.L1 fu t (fun x4 x5=>next (x4,x5)) s.1 s.2) m (acc,(k:Int) - 1)=law13_turned.k1 fu t (acc++downI k):=by
    intro k
    induction k with
    | zero=>
      intro m acc h1 h2
      obtain⟨m,rfl⟩: ∃ i,m=i+1:=⟨m - 1,by omega⟩
      rw[cloop_succ]
      show law13_turned.L1 fu t _ acc ((0:Nat) - 1:Int)=_
      unfold law13_turned.L1
      rw[if_neg (by omega)]
      simp[downI]
    | succ k ih=>
      intro m acc h1 h2
      obtain⟨m,rfl⟩: ∃ i,m=i+1:=⟨m - 1,by omega⟩
      rw[cloop_succ]
      show law13_turned.L1 fu t _ acc (((k+1:Nat):Int) - 1)=_
      unfold law13_turned.L1
      rw[if_pos (by omega),chk_pos (by omega),wk_eq (x:=((k+1:Nat):Int) - 1 - 1) (by omega) (by omega),show((k+1:Nat):Int) - 1=(k:Int)by omega]
      have:=ih m (acc++[(k:Int)]) (by simp;omega) (by omega)
      simp only[List.append_assoc,List.singleton_append]at this
      exact this
  have:=key n fu [] (by simp) (by omega)
  simpa using this
theorem newV_n{k:Int}{n:Nat}(hk:Known k)(hn:n≤4096):(newV k [(n:Int)]).2=0:=by
  unfold newV
  rw[if_pos (show k=1∨k=7∨k=9 from hk),if_pos (good_n hn)]
  split
  · rfl
  · split <;> rfl
theorem nobad{n:Nat}{N:Int}(h:N=n): ¬ (downI n).any (badP N)=true:=by
  intro hh
  obtain⟨x,hx,hb⟩:=List.any_eq_true.1 hh
  have:=downI_mem hx
  simp[badP]at hb
  omega
theorem down_len{n:Nat}:((downI n).length:Int)=prod [(n:Int)]:=by rw[downI_length];simp[prod]
theorem turned_any{t:T_Tensor}{n:Nat}(hs:Small t)(hft:Fuel fu t)(hN:t.fF.length+t.fI.length+t.fB.length=n)(hn:n≤4096)(hf:5000<fu):law13_turned fu t=some (pickV t [(n:Int)] (downI n)).1:=by
  have e2:wk .i64 ((wk .i64 ((t.fF.length:Int)+(t.fI.length:Int)))+(t.fB.length:Int))=(n:Int):=by
    rw[wk_eq (x:=(t.fF.length:Int)+(t.fI.length:Int)) (by omega) (by omega),wk_eq (by omega) (by omega)];omega
  unfold law13_turned jn
  rw[e2,wk_eq (x:=(n:Int) - 1) (by omega) (by omega),turned_loop hn hf]
  unfold law13_turned.k1
  rw[e2,refPick_spec hs hft (by simp[Short]) (by show 1<fu;omega) (by unfold Short;rw[downI_length];omega) (by rw[downI_length];omega),ob_some]
theorem turned_flo{l:List Int}(hn:l.length≤4096)(hf:5000<fu):law13_turned fu (floT l)=some (floT l.reverse):=by
  rw[turned_any (n:=l.length) ⟨by simp[floT],by show l.length<=_;omega,by simp[floT],by simp[floT]⟩ (floT_fuel hn hf) (by simp[floT]) hn hf]
  unfold pickV
  rw[if_pos (floT_check hn),if_pos (newV_n (k:=(floT l).fType) (.inl rfl) hn),if_pos down_len,if_neg (nobad (by simp[floT])),if_pos (show(floT l).fType=1 from rfl)]
  show some (⟨1,[(l.length:Int)],(downI l.length).map (pkOf l 0),[],[]⟩:T_Tensor)=_
  rw[down_pk (Nat.le_refl _),List.take_length]
  unfold floT
  rw[List.length_reverse]
theorem turned_row{l:List Int}(hn:l.length≤4096)(hf:5000<fu):law13_turned fu (rowT l)=some (rowT l.reverse):=by
  rw[turned_any (n:=l.length) ⟨by simp[rowT],by simp[rowT],by show l.length<=_;omega,by simp[rowT]⟩ (rowT_fuel hn hf) (by simp[rowT]) hn hf]
  unfold pickV
  rw[if_pos (rowT_check hn),if_pos (newV_n (k:=(rowT l).fType) (.inr (.inl rfl)) hn),if_pos down_len,if_neg (nobad (by simp[rowT])),if_neg (show ¬ (rowT l).fType=1 from(by decide: ¬ (7:Int)=1)),if_pos (show(rowT l).fType=7 from rfl)]
  show some (⟨7,[(l.length:Int)],[],(downI l.length).map (pkOf l 0),[]⟩:T_Tensor)=_
  rw[down_pk (Nat.le_refl _),List.take_length]
  unfold rowT
  rw[List.length_reverse]
theorem turned_boo{l:List Bool}(hn:l.length≤4096)(hf:5000<fu):law13_turned fu (booT l)=some (booT l.reverse):=by
  rw[turned_any (n:=l.length) ⟨by simp[booT],by simp[booT],by simp[booT],by show l.length<=_;omega⟩ (booT_fuel hn hf) (by simp[booT]) hn hf]
  unfold pickV
  rw[if_pos (booT_check hn),if_pos (newV_n (k:=(booT l).fType) (.inr (.inr rfl)) hn),if_pos down_len,if_neg (nobad (by simp[booT])),if_neg (show ¬ (booT l).fType=1 from(by decide: ¬ (9:Int)=1)),if_neg (show ¬ (booT l).fType=7 from(by decide: ¬ (9:Int)=7))]
  show some (⟨9,[(l.length:Int)],[],[],(downI l.length).map (pkOf l false)⟩:T_Tensor)=_
  rw[down_pk (Nat.le_refl _),List.take_length]
  unfold booT
  rw[List.length_reverse]
end
end Go.Av
