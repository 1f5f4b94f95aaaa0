/- Layer 4, shapes: what the plain functions come to. Strides, indices, offsets. Copies. Layer 5: sameness, whether a tensor may be, copies whose no numbers are one. New tensors, elements picked. Orders of axes: sums and products in another order, places there and back. All indices of dims in row order; elements picked by a place of each. Any tensors: as constant values; whether each may be. Lists of numbers alike. Sameness of two tensors. Sums of indices by strides; axes; copies. What infer tells of GatherElements and of ScatterElements. Places that another tensor names along an axis. GatherElements and ScatterElements of the same places. MovesScatter: what is gathered and scattered back. Conditions: those that each names. -/
import Derived.Test.YtnpnomlnajgbcaaGreatQS
import Derived.Test.YtnpnomlnajgbcaaGreatPl
set_option linter.unusedVariables false
namespace Go.Av
def fstAt(p:Int→Bool):Nat→List Int→Int
  |_,[]=> -1
  |i,x::l=>if p x=true then i else fstAt p (i+1) l
theorem fstAt_any(p:Int→Bool): ∀ (l:List Int) (i:Nat),decide (0≤fstAt p i l)=l.any p
  |[],i=>rfl
  | x::l,i=>by
    simp only[fstAt,List.any_cons]
    by_cases h:p x=true
    · simp[h]
    · simp[h,← fstAt_any p l (i+1)]
def Short(l:List Int):Prop:=l.length<=140737488355328
theorem wk_succ{k:Nat}(h:k<=140737488355328):wk .i64 ((k:Int)+1)=((k+1:Nat):Int):=by rw[wk_eq (by omega) (by omega)];omega
theorem IndexFunc_spec{fu:Nat}{l:List Int}{p:Int→Option Bool}{q:Int→Bool}(hp: ∀ x,p x=some (q x))(hl:Short l)(hf:l.length<fu):slices_IndexFunc_int fu l p=some (fstAt q 0 l):=by
  unfold slices_IndexFunc_int slices_IndexFunc_int.W1
  refine cloop_ind (λ(i:Int)=>some (fstAt q i.toNat (l.drop i.toNat))) (λi=>0<=i/\i<=l.length) (λi=>l.length - i.toNat) ?_ fu 0 (by omega) (by simp;omega)
  rintro i ⟨h0,h1⟩ next hn
  obtain⟨k,rfl⟩:=Int.eq_ofNat_of_zero_le h0
  unfold slices_IndexFunc_int.L1
  simp only[Int.toNat_natCast]
  by_cases hk:k<l.length
  · rw[if_pos (by omega),at?_get hk,ob_some,hp,ob_some,List.drop_eq_getElem_cons hk]
    simp only[fstAt]
    by_cases hq:q l[k]=true
    · rw[if_pos hq,if_pos hq]
    · rw[if_neg hq,if_neg hq,wk_succ (by unfold Short at hl;omega),hn _ (by omega) (by simp;omega)]
      simp
  · rw[if_neg (by omega),List.drop_of_length_le (by omega)];rfl
theorem ContainsFunc_spec{fu:Nat}{l:List Int}{p:Int→Option Bool}{q:Int→Bool}(hp: ∀ x,p x=some (q x))(hl:Short l)(hf:l.length<fu):slices_ContainsFunc_int fu l p=some (l.any q):=by
  unfold slices_ContainsFunc_int
  rw[IndexFunc_spec hp hl hf,ob_some,fstAt_any]
theorem IndexI_spec{fu:Nat}{l:List Int}{x:Int}(hl:Short l)(hf:l.length<fu):slices_Index_int fu l x=some (fstAt (fun y=>decide (x=y)) 0 l):=by
  unfold slices_Index_int slices_Index_int.W1
  refine cloop_ind (λ(i:Int)=>some (fstAt (λy=>decide (x=y)) i.toNat (l.drop i.toNat))) (λi=>0<=i/\i<=l.length) (λi=>l.length - i.toNat) ?_ fu 0 (by omega) (by simp;omega)
  rintro i ⟨h0,h1⟩ next hn
  obtain⟨k,rfl⟩:=Int.eq_ofNat_of_zero_le h0
  unfold slices_Index_int.L1
  simp only[Int.toNat_natCast]
  by_cases hk:k<l.length
  · rw[if_pos (by omega),at?_get hk,ob_some,List.drop_eq_getElem_cons hk]
    simp only[fstAt]
    by_cases hq:x=l[k]
    · rw[if_pos hq,if_pos (by simpa using hq)]
    · rw[if_neg hq,if_neg (by simpa using hq),wk_succ (by unfold Short at hl;omega),hn _ (by omega) (by simp;omega)]
      simp
  · rw[if_neg (by omega),List.drop_of_length_le (by omega)];rfl
theorem Contains_spec{fu:Nat}{l:List Int}{x:Int}(hl:Short l)(hf:l.length<fu):slices_Contains_int fu l x=some (l.any fun y=>decide (x=y)):=by
  unfold slices_Contains_int
  rw[IndexI_spec hl hf,ob_some,fstAt_any]
def prod:List Int→Int
  |[]=>1
  |x::l=>x*prod l
def Rng(l:List Int):Prop:= ∀ x ∈ l,0<=x/\x<=4096
def Good(l:List Int):Prop:=l.length<=8/\Rng l/\prod l<=4096
instance (l:List Int):Decidable (Rng l):=by unfold Rng;infer_instance
instance (l:List Int):Decidable (Good l):=by unfold Good;infer_instance
def errS(l:List Int):Int:=if l.any (λx=>decide (x<0))=true then 1 else 4
def sizeV(l:List Int):Int×Int:=if Good l then(prod l,0)else(0,errS l)
theorem errS_ne(l:List Int):errS l≠0:=by unfold errS;split <;> decide
theorem prod_nonneg: ∀ {l:List Int},Rng l→0≤prod l
  |[],_=>by decide
  |x::l,h=>Int.mul_nonneg (h x (by simp)).1 (prod_nonneg λy hy=>h y (by simp[hy]))
theorem prod_pos: ∀ {l:List Int},(∀ x ∈ l,1≤x)→1≤prod l
  |[],_=>by decide
  | x::l,h=>by
    have h1:=h x (by simp)
    have h2:=prod_pos (l:=l) λy hy=>h y (by simp[hy])
    have:=Int.mul_le_mul h1 h2 (by decide) (by omega)
    simpa[prod]using this
theorem prod_zero: ∀ {l:List Int},0 ∈ l→prod l=0
  | x::l,h=>by
    rcases List.mem_cons.1 h with rfl|h
    · simp[prod]
    · simp[prod,prod_zero h]
theorem div_lt_iff{m d:Int}(hm:1≤m)(hd:0≤d):(Int.tdiv 4096 m<d) ↔ 4096<m*d:=by
  rw[Int.tdiv_eq_ediv_of_nonneg (by decide)]
  constructor
  · intro h
    have:=Int.lt_mul_of_ediv_lt (by omega:0<m) h
    rwa[Int.mul_comm]at this
  · intro h
    exact Int.ediv_lt_of_lt_mul (by omega) (by rwa[Int.mul_comm])
theorem SizeW_spec{fu:Nat}{l:List Int}(hp: ∀ x ∈ l,1≤x∧x≤4096)(hl:l.length≤8)(hf:l.length<fu):shape_Size.W1 fu l 1 0=some (if prod l≤4096 then(prod l,0)else(0,4)):=by
  unfold shape_Size.W1
  refine(cloop_ind (λ(s:Int×Int)=>some (if s.1*prod (l.drop s.2.toNat)<=4096 then(s.1*prod (l.drop s.2.toNat),0)else(0,4))) (λs=>0<=s.2/\s.2<=l.length/\1<=s.1/\s.1<=4096) (λs=>l.length - s.2.toNat) ?_ fu (1,0) (by simp) (by simp;omega)).trans (by simp)
  rintro⟨m,i⟩ ⟨h0,h1,h2,h3⟩ next hn
  simp only at h0 h1 h2 h3 hn ⊢
  obtain⟨k,rfl⟩:=Int.eq_ofNat_of_zero_le h0
  unfold shape_Size.L1
  simp only[Int.toNat_natCast]
  by_cases hk:k<l.length
  · obtain⟨q1,q2⟩:=hp _ (List.getElem_mem hk)
    have t0:0≤Int.tdiv 4096 m∧Int.tdiv 4096 m≤4096:=by
      rw[Int.tdiv_eq_ediv_of_nonneg (by decide)]
      exact⟨Int.ediv_nonneg (by decide) (by omega),Int.ediv_le_self _ (by decide)⟩
    rw[if_pos (by omega),at?_get hk,ob_some,chk_pos (by omega),wk_eq (by omega) (by omega),List.drop_eq_getElem_cons hk]
    have hpos:1<=prod (l.drop (k+1)):=prod_pos λx hx=>(hp x (List.mem_of_mem_drop hx)).1
    have hge:1<=m*l[k]:=by have:=Int.mul_le_mul h2 q1 (by decide) (by omega);simpa using this
    simp only[prod,← Int.mul_assoc]
    by_cases hd:Int.tdiv 4096 m<l[k]
    · rw[if_pos hd]
      rw[div_lt_iff h2 (by omega)]at hd
      have:m*l[k]*1<=m*l[k]*prod (l.drop (k+1)):=Int.mul_le_mul_of_nonneg_left hpos (by omega)
      rw[if_neg (by omega)]
    · rw[if_neg hd]
      rw[div_lt_iff h2 (by omega)]at hd
      rw[wk_eq (by omega) (by omega),wk_succ (by omega),hn (m*l[k],((k+1:Nat):Int)) ⟨by simp only[];omega,by simp only[];omega,hge,by simp only[];omega⟩ (by simp;omega)]
      simp
  · rw[if_neg (by omega),List.drop_of_length_le (by omega)]
    simp only[prod,Int.mul_one]
    rw[if_pos h3]
theorem Size_spec{fu:Nat}{l:List Int}(hl:Short l)(hf:l.length<fu):shape_Size fu l=some (sizeV l):=by
  unfold shape_Size;try unfold jn
  rw[ContainsFunc_spec (p:=λy0=>shape_Size_1 fu y0) (q:=λx=>decide (x<0)) (λx=>rfl) hl hf,ob_some]
  by_cases h1:l.any (λx=>decide (x<0))=true
  · rw[if_pos h1]
    have hg: ¬ Good l:=fun hg=>by
      obtain⟨x,hx,hx2⟩:=List.any_eq_true.1 h1
      have:=(hg.2.1 x hx).1
      simp at hx2;omega
    simp only[sizeV,if_neg hg,errS,if_pos h1]
  rw[if_neg h1]
  have he:errS l=4:=by simp only[errS,if_neg h1]
  by_cases h2:8<(l.length:Int)
  · rw[if_pos h2]
    have hg: ¬ Good l:=λhg=>by have:=hg.1;omega
    simp only[sizeV,if_neg hg,he]
  rw[if_neg h2,ContainsFunc_spec (p:=λy0=>shape_Size_2 fu y0) (q:=λx=>decide (4096<x)) (λx=>rfl) hl hf,ob_some]
  by_cases h3:l.any (λx=>decide (4096<x))=true
  · rw[if_pos h3]
    have hg: ¬ Good l:=fun hg=>by
      obtain⟨x,hx,hx2⟩:=List.any_eq_true.1 h3
      have:=(hg.2.1 x hx).2
      simp at hx2;omega
    simp only[sizeV,if_neg hg,he]
  rw[if_neg h3]
  have hr:Rng l:=fun x hx=>by
    simp only[List.any_eq_true,decide_eq_true_eq,not_exists,not_and]at h1 h3
    have:=h1 x hx;have:=h3 x hx;omega
  unfold shape_Size.k1
  rw[Contains_spec hl hf,ob_some]
  by_cases h4:(l.any λy=>decide ((0:Int)=y))=true
  · rw[if_pos h4]
    have hz:(0:Int) ∈ l:=by
      obtain⟨x,hx,hx2⟩:=List.any_eq_true.1 h4
      simp at hx2;subst hx2;exact hx
    have hg:Good l:=⟨by omega,hr,by rw[prod_zero hz];decide⟩
    simp only[sizeV,if_pos hg,prod_zero hz]
  rw[if_neg h4]
  have hp: ∀ x ∈ l,1≤x∧x≤4096:=fun x hx=>by
    have:=hr x hx
    simp only[List.any_eq_true,decide_eq_true_eq,not_exists,not_and]at h4
    have:=h4 x hx;omega
  rw[SizeW_spec hp (by omega) hf]
  by_cases h5:prod l<=4096
  · have hg:Good l:=⟨by omega,hr,h5⟩
    simp only[sizeV,if_pos hg,if_pos h5]
  · have hg: ¬ Good l:=fun hg=>h5 hg.2.2
    simp only[sizeV,if_neg hg,if_neg h5,he]
end Go.Av
set_option linter.unusedVariables false
namespace Go.Av
def strdW:List Int→List Int
  |[]=>[]
  |_::l=>wk .i64 (prod l)::strdW l
theorem strdW_length: ∀ l,(strdW l).length=l.length
  |[]=>rfl
  |_::l=>by simp[strdW,strdW_length l]
theorem rep_set(i:Nat)(x:Int)(s:List Int):(List.replicate (i+1) 0++s).set i x=List.replicate i 0++x::s:=by
  rw[List.replicate_succ',List.append_assoc,List.set_append_right _ _ (by simp)]
  simp
theorem strides_spec{fu:Nat}{l:List Int}(hl:l.length*8≤140737488355328)(hf:l.length<fu):shape_strides fu l=some (strdW l):=by
  unfold shape_strides shape_strides.W1
  rw[chk_pos (by omega)]
  have hw:wk .i64 ((l.length:Int) - 1)=((l.length:Int) - 1):=wk_eq (by omega) (by omega)
  rw[hw,Int.toNat_natCast]
  refine(cloop_ind (λ_=>some (strdW l)) (λ(s:List Int×Int×Int)=> ∃ k:Nat,k<=l.length/\s=(List.replicate k 0++strdW (l.drop k),wk .i64 (prod (l.drop k)),(k:Int) - 1)) (λs=>(s.2.2+1).toNat) ?_ fu _ ⟨l.length,Nat.le_refl _,by simp[strdW,prod];decide⟩ (by simp;omega))
  rintro _ ⟨k,hk,rfl⟩ next hn
  unfold shape_strides.L1
  simp only
  match k,hk with
  |0,_=>rw[if_neg (by decide)];simp
  | k+1,hk=>
    have e1:(((k+1:Nat):Int) - 1)=(k:Int):=by omega
    have hlen:(List.replicate (k+1) (0:Int)++strdW (l.drop (k+1))).length=l.length:=by simp[strdW_length];omega
    rw[e1,if_pos (by omega),hlen,chk_pos (by omega),at?_get (by omega),ob_some,Int.toNat_natCast,rep_set,wk_mul_l,wk_eq (x:=(k:Int) - 1) (by omega) (by omega)]
    refine hn _ ⟨k,by omega,?_⟩ (by simp)
    rw[List.drop_eq_getElem_cons (by omega:k<l.length)]
    simp only[strdW,prod]
    rw[Int.mul_comm]
def idxV:List Int→Int→List Int
  |[],_=>[]
  |_::l,a=>a / prod l::idxV l (a%prod l)
theorem idxV_length: ∀ l a,(idxV l a).length=l.length
  |[],_=>rfl
  |_::l,a=>by simp[idxV,idxV_length l]
def okIx:List Int→List Int→Bool
  |d::l,x::xs=>decide (0<=x)&&decide (x<d)&&okIx l xs
  |_,_=>true
def offV:List Int→List Int→Int
  |_::l,x::xs=>x*prod l+offV l xs
  |_,_=>0
theorem okIx_idx: ∀ {l:List Int} {a:Int},(∀ x ∈ l,1≤x)→0≤a→a<prod l→okIx l (idxV l a)=true
  |[],_,_,_,_=>rfl
  | d::l,a,hp,h0,h1=>by
    have hq:1<=prod l:=prod_pos λx hx=>hp x (by simp[hx])
    have h2:0<=a / prod l:=Int.ediv_nonneg h0 (by omega)
    have h3:a / prod l<d:=Int.ediv_lt_of_lt_mul (by omega) h1
    have h4:=okIx_idx (l:=l) (a:=a%prod l) (λx hx=>hp x (by simp[hx])) (Int.emod_nonneg _ (by omega)) (Int.emod_lt_of_pos _ (by omega))
    simp[idxV,okIx,h2,h3,h4]
end Go.Av
set_option linter.unusedVariables false
namespace Go.Av
theorem Clone_spec{fu:Nat}{l:List Int}(h:l.length*8≤140737488355328):slices_Clone_int fu l=some l:=by
  unfold slices_Clone_int
  rw[chk_pos (by omega)]
end Go.Av
set_option linter.unusedVariables false
namespace Go.Av
def sameT(a b:T_Tensor):Bool:=decide (a.fType=b.fType)&&decide (a.fDims=b.fDims)&&decide (a.fF=b.fF)&&decide (a.fI=b.fI)&&decide (a.fB=b.fB)
def Small(t:T_Tensor):Prop:=t.fDims.length*8<=140737488351232/\t.fF.length<=140737488351232/\t.fI.length<=140737488351232/\t.fB.length<=140737488351232
def Fuel(fu:Nat)(t:T_Tensor):Prop:=t.fDims.length<fu/\t.fF.length<fu/\t.fI.length<fu/\t.fB.length<fu
def noT:T_Tensor:=⟨0,[],[],[],[]⟩
theorem known_spec{fu:Nat}{k:Int}:tens_known fu k=some (decide (k=1∨k=7∨k=9)):=by
  unfold tens_known tens_Width
  by_cases h1:k=1
  · simp[h1]
  · by_cases h2:k=7
    · simp[h2]
    · by_cases h3:k=9 <;> simp[h1,h2,h3]
def Known(k:Int):Prop:=k=1∨k=7∨k=9
instance (k:Int):Decidable (Known k):=by unfold Known;infer_instance
def LensOK(t:T_Tensor):Prop:=(t.fF.length:Int)=(if t.fType=1 then prod t.fDims else 0)/\(t.fI.length:Int)=(if t.fType=7 then prod t.fDims else 0)/\(t.fB.length:Int)=(if t.fType=9 then prod t.fDims else 0)
instance (t:T_Tensor):Decidable (LensOK t):=by unfold LensOK;infer_instance
def checkV(t:T_Tensor):Int:=if Known t.fType then(if Good t.fDims then(if LensOK t then 0 else 3)else errS t.fDims)else 5
theorem Check_spec{fu:Nat}{t:T_Tensor}(hs:Small t)(hf:Fuel fu t):tens_Check fu t=some (checkV t):=by
  obtain⟨s1,s2,s3,s4⟩:=hs
  unfold tens_Check checkV;try unfold jn
  rw[known_spec,ob_some,Size_spec (by unfold Short;omega) hf.1]
  by_cases hk:Known t.fType
  · rw [if_pos (by simpa[Known]using hk),ob_some,if_pos hk]
    simp only[sizeV]
    by_cases hg:Good t.fDims
    · simp only[if_pos hg,if_true]
      have hp:=prod_nonneg hg.2.1
      have hsum:wk .i64 ((wk .i64 ((t.fF.length:Int)+(t.fI.length:Int)))+(t.fB.length:Int))=t.fF.length+t.fI.length+t.fB.length:=by
        rw[wk_add_l,wk_eq (by omega) (by omega)]
      unfold tens_Check.k1 LensOK
      simp only[hsum]
      rcases hk with e|e|e
      · simp only[e,show ¬ (1:Int)=7 by decide,show ¬ (1:Int)=9 by decide,if_false,if_true]
        by_cases h1:(t.fF.length:Int)=prod t.fDims
        · by_cases h2:(t.fF.length:Int)+t.fI.length+t.fB.length=prod t.fDims
          · rw[if_pos h1,if_pos h2,if_pos ⟨h1,by omega,by omega⟩]
          · rw[if_pos h1,if_neg h2,if_neg (λh=>h2 (by omega))]
        · rw[if_neg h1,if_neg (λh=>h1 h.1)]
      · simp only[e,show ¬ (7:Int)=1 by decide,show ¬ (7:Int)=9 by decide,if_false,if_true]
        by_cases h1:(t.fI.length:Int)=prod t.fDims
        · by_cases h2:(t.fF.length:Int)+t.fI.length+t.fB.length=prod t.fDims
          · rw[if_pos h1,if_pos h2,if_pos ⟨by omega,h1,by omega⟩]
          · rw[if_pos h1,if_neg h2,if_neg (λh=>h2 (by omega))]
        · rw[if_neg h1,if_neg (λh=>h1 h.2.1)]
      · simp only[e,show ¬ (9:Int)=1 by decide,show ¬ (9:Int)=7 by decide,if_false,if_true]
        by_cases h1:(t.fB.length:Int)=prod t.fDims
        · by_cases h2:(t.fF.length:Int)+t.fI.length+t.fB.length=prod t.fDims
          · rw[if_pos h1,if_pos h2,if_pos ⟨by omega,by omega,h1⟩]
          · rw[if_pos h1,if_neg h2,if_neg (λh=>h2 (by omega))]
        · rw[if_neg h1,if_neg (λh=>h1 h.2.2)]
    · simp only[if_neg hg]
      rw[if_neg (errS_ne _)]
  · rw[if_neg (by simpa[Known]using hk),if_neg hk]
theorem checkV_zero{t:T_Tensor}:checkV t=0 ↔ Known t.fType∧Good t.fDims∧LensOK t:=by
  unfold checkV
  by_cases hk:Known t.fType <;> by_cases hg:Good t.fDims <;> by_cases hl:LensOK t <;> simp[hk,hg,hl,errS_ne]
theorem map_loop{β:Type}{l:List Int}{f:Int→Int}{B:((List Int×Int)→Option β)→(List Int×Int)→Option β}{c:List Int→Option β}{fu:Nat}(hf:l.length<fu)
    (hB: ∀ (next:List Int×Int->Option β) (k:Nat) (m:List Int) (hk:k<l.length),m.length=l.length->(hm:m[k]? =some l[k])->B next (m,(k:Int))=next (m.set k (f l[k]),((k+1:Nat):Int)))
    (hE: ∀ next (m:List Int),m.length=l.length->B next (m,(l.length:Int))=c m):cloop B fu (l,0)=c (l.map f):=by
  have:=cloop_up (body:=B) (n:=fu) l.length (λk=>(l.take k).map f++l.drop k) (c (l.map f)) ?_ ?_ hf
  · simpa using this
  · intro k hk next hn
    have hlk:((l.take k).map f).length=k:=by simp;omega
    rw[hB next k _ hk (by simp;omega) (by rw[List.getElem?_append_right (by omega),hlk,Nat.sub_self,List.getElem?_drop];simp[hk])]
    have e:((l.take k).map f++l.drop k).set k (f l[k])=(l.take (k+1)).map f++l.drop (k+1):=by
      rw[List.set_append_right _ _ (by omega),hlk,Nat.sub_self,List.drop_eq_getElem_cons hk,List.set_cons_zero,List.take_add_one,List.getElem?_eq_getElem hk,List.map_append,List.append_assoc]
      rfl
    rw[e]
    exact hn
  · intro next
    rw[hE _ _ (by simp)]
    simp
def canonF(x:Int):Int:=if 2139095040<x%2147483648 then 2143289344 else x
def canonT(t:T_Tensor):T_Tensor:=⟨t.fType,t.fDims,t.fF.map canonF,t.fI,t.fB⟩
theorem wk_eq32{x:Int}(h0:0≤x)(h1:x<4294967296):wk .u32 x=x:=by
  have:wk .u32 x=x%4294967296:=by simp[wk,IntKind.wrap,IntKind.signed,IntKind.bits]
  rw[this,Int.emod_eq_of_lt h0 h1]
theorem abs_u32{x:Int}(h0:0≤x)(h1:x<4294967296):bandn .u32 x 2147483648=x%2147483648:=by
  unfold bandn
  rw[show IntKind.u32.bits=32 from rfl,show ~~~(BitVec.ofInt 32 2147483648)=BitVec.ofNat 32 (2 ^ 31 - 1)by decide,BitVec.toNat_and,BitVec.toNat_ofNat,BitVec.toNat_ofInt]
  have:(2 ^ 31 - 1)%2 ^ 32=2 ^ 31 - 1:=by decide
  rw[this,Nat.and_two_pow_sub_one_eq_mod]
  have hw:=wk_eq32 (x:=(((x%((2 ^ 32:Nat):Int)).toNat%2 ^ 31:Nat):Int)) (by omega) (by omega)
  unfold wk at hw
  rw[hw]
  omega
theorem softCanon_spec{fu:Nat}{x:Int}(h0:0≤x)(h1:x<4294967296):soft_Canon fu x=some (canonF x):=by
  unfold soft_Canon soft_NaN soft_Abs canonF
  rw[abs_u32 h0 h1,ob_some,ob_some]
  by_cases h:2139095040<x%2147483648 <;> simp[h]
def Ten(t:T_Tensor):Prop:=t.fDims.length*8<=140737488351232/\t.fF.length*4<=140737488351232/\t.fI.length*8<=140737488351232/\t.fB.length<=140737488351232/\ ∀ x ∈ t.fF,0<=x/\x<4294967296
theorem Ten.small{t:T_Tensor}(h:Ten t):Small t:=by obtain⟨a,b,c,d,_⟩:=h;exact⟨a,by omega,by omega,by omega⟩
theorem Copy_spec{fu:Nat}{t:T_Tensor}(h:Ten t):tens_Copy fu t=some t:=by
  obtain⟨h1,h2,h3,h4,_⟩:=h
  unfold tens_Copy tens_own_int tens_own_uint32 tens_own_int64 tens_own_bool
  rw[chk_pos (by omega),ob_some,chk_pos (by omega),ob_some,chk_pos (by omega),ob_some,chk_pos (by omega),ob_some]
theorem Canon_spec{fu:Nat}{t:T_Tensor}(h:Ten t)(hf:t.fF.length<fu):tens_Canon fu t=some (canonT t):=by
  have hu:=h.2.2.2.2
  have hl:=h.2.1
  unfold tens_Canon
  rw[Copy_spec h,ob_some]
  unfold tens_Canon.W1
  refine map_loop (f:=canonF) (c:=λm=>some (T_Tensor.mk t.fType t.fDims m t.fI t.fB)) hf ?_ ?_
  · intro next k m hk hm hg
    unfold tens_Canon.L1
    simp only[]
    obtain⟨u1,u2⟩:=hu _ (List.getElem_mem hk)
    rw[if_pos (by omega),at?_nat,hg,ob_some,softCanon_spec u1 u2,ob_some,chk_pos (by omega),wk_succ (by omega)]
    rfl
  · intro next m hm
    unfold tens_Canon.L1
    rw[if_neg (by simp)]
end Go.Av
set_option linter.unusedVariables false
namespace Go.Av
def newV(k:Int)(d:List Int):T_Tensor×Int:=
  if k=1∨k=7∨k=9 then(if Good d then(if k=1 then(⟨k,d,List.replicate (prod d).toNat 0,[],[]⟩,0)else if k=7 then(⟨k,d,[],List.replicate (prod d).toNat 0,[]⟩,0)else(⟨k,d,[],[],List.replicate (prod d).toNat false⟩,0))else(noT,errS d))else(noT,5)
theorem New_spec{fu:Nat}{k:Int}{d:List Int}(hd:Short d)(hf:d.length<fu):tens_New fu k d=some (newV k d):=by
  unfold tens_New newV
  rw[known_spec,ob_some,Size_spec hd hf,ob_some]
  by_cases hk:k=1∨k=7∨k=9
  · rw [if_pos (by simpa using hk),if_pos hk]
    simp only[sizeV]
    by_cases hg:Good d
    · simp only[if_pos hg,if_true]
      have h1:=prod_nonneg hg.2.1
      have h2:=hg.2.2
      have h3:=hg.1
      unfold slices_Clone_int
      rw[chk_pos (by omega),ob_some,chk_pos (by omega),chk_pos (by omega),chk_pos (by omega)]
      by_cases e1:k=1
      · rw[if_pos e1,if_pos e1]
      · rw[if_neg e1,if_neg e1]
        by_cases e2:k=7
        · rw[if_pos e2,if_pos e2]
        · rw[if_neg e2,if_neg e2]
    · simp only[if_neg hg]
      rw[if_neg (errS_ne d)]
      rfl
  · rw[if_neg (by simpa using hk),if_neg hk]
    rfl
theorem pick_loop{σ α β:Type}(st:List α→Nat→σ){B:(σ→Option β)→σ→Option β}{at_:List Int}(bad:Int→Bool)(pk:Int→α)(z:α){e:Option β}{c:List α→Option β}
    (hB: ∀ (next:σ->Option β) (k:Nat) (m:List α) (hk:k<at_.length),m.length=at_.length->B next (st m k)=if bad at_[k]=true then e else next (st (if 0<=at_[k]then m.set k (pk at_[k])else m) (k+1)))
    (hE: ∀ (next:σ->Option β) (m:List α),m.length=at_.length->B next (st m at_.length)=c m) (hz: ∀ a,¬ 0<=a->pk a=z) {fu:Nat} (hf:at_.length<fu):
    cloop B fu (st (List.replicate at_.length z) 0)=if at_.any bad=true then e else c (at_.map pk):=by
  have key : ∀ (f k:Nat),k≤at_.length→at_.length - k<f→cloop B f (st ((at_.take k).map pk++List.replicate (at_.length - k) z) k)=if(at_.drop k).any bad=true then e else c (at_.map pk):=by
    intro f
    induction f with
    |zero=>intro k _ h;omega
    | succ f ih=>
      intro k hk hf
      by_cases hkn:k=at_.length
      · subst hkn
        show B _ _=_
        have:=hE (cloop B f) ((at_.take at_.length).map pk++List.replicate (at_.length - at_.length) z) (by simp)
        rw[this]
        simp
      · have hk':k<at_.length:=by omega
        show B _ _=_
        rw[hB _ _ _ hk' (by simp;omega),List.drop_eq_getElem_cons hk',List.any_cons]
        by_cases hb:bad at_[k]=true
        · simp[hb]
        · rw [if_neg hb]
          have hm:(if 0≤at_[k]then((at_.take k).map pk++List.replicate (at_.length - k) z).set k (pk at_[k])else(at_.take k).map pk++List.replicate (at_.length - k) z)=(at_.take (k+1)).map pk++List.replicate (at_.length - (k+1)) z:=by
            have hr:List.replicate (at_.length - k) z=z::List.replicate (at_.length - (k+1)) z:=by rw[show at_.length - k=at_.length - (k+1)+1 by omega,List.replicate_succ]
            have ht:at_.take (k+1)=at_.take k++[at_[k]]:=by rw[List.take_add_one,List.getElem?_eq_getElem hk'];rfl
            have hlen:((at_.take k).map pk).length=k:=by simp;omega
            rw[hr,ht,List.map_append,List.append_assoc]
            split
            · rw[List.set_append_right _ _ (by omega),hlen,Nat.sub_self]
              rfl
            · rename_i h0
              rw[List.map_singleton,hz _ h0]
              rfl
          rw[hm,ih (k+1) (by omega) (by omega)]
          simp[hb]
  have:=key fu 0 (by omega) (by omega)
  simpa using this
def badP(N:Int)(x:Int):Bool:=decide (x< -1) || decide (N<=x)
def pkOf{α:Type}(src:List α)(z:α)(a:Int):α:=if 0<=a then src.getD a.toNat z else z
def pickV(t:T_Tensor)(d l:List Int):T_Tensor×Int:=
  if checkV t=0 then(if(newV t.fType d).2=0 then(if(l.length:Int)=prod d then(if l.any (badP (t.fF.length+t.fI.length+t.fB.length))=true then(noT,2)else
    (if t.fType=1 then⟨t.fType,d,l.map (pkOf t.fF 0),[],[]⟩else if t.fType=7 then⟨t.fType,d,[],l.map (pkOf t.fI 0),[]⟩else⟨t.fType,d,[],[],l.map (pkOf t.fB false)⟩,0))else(noT,3))else(noT,(newV t.fType d).2))else(noT,checkV t)
theorem at?_pk{α:Type}{src:List α}{z:α}{a:Int}(h0:0≤a)(h:a<src.length):at? src a=some (pkOf src z a):=by
  obtain⟨k,rfl⟩:=Int.eq_ofNat_of_zero_le h0
  rw[at?_get (by omega),pkOf,if_pos h0,List.getD_eq_getElem?_getD,Int.toNat_natCast,List.getElem?_eq_getElem (by omega)]
  rfl
theorem pkOf_neg{α:Type}{src:List α}{z:α}{a:Int}(h: ¬ 0<=a):pkOf src z a=z:=if_neg h
theorem newV_ok{k:Int}{d:List Int}(h:(newV k d).2=0):Known k∧Good d∧newV k d=(if k=1 then(⟨k,d,List.replicate (prod d).toNat 0,[],[]⟩,0)else if k=7 then(⟨k,d,[],List.replicate (prod d).toNat 0,[]⟩,0)else(⟨k,d,[],[],List.replicate (prod d).toNat false⟩,0)):=by
  unfold newV at h ⊢
  by_cases hk:k=1∨k=7∨k=9
  · rw[if_pos hk]at h ⊢
    by_cases hg:Good d
    · rw[if_pos hg]
      exact⟨hk,hg,rfl⟩
    · rw[if_neg hg]at h
      exact absurd h (errS_ne d)
  · rw[if_neg hk]at h
    cases h
theorem pred_spec{fu:Nat}{N x:Int}:tens_Pick_1 fu x N=some (badP N x):=by
  unfold tens_Pick_1 badP
  by_cases h:x< -1
  · rw[if_pos h];simp[h]
  · rw[if_neg h];simp[h]
theorem sumW{a b c:Nat}(h1:a≤140737488355328)(h2:b≤140737488355328)(h3:c≤140737488355328):wk .i64 ((wk .i64 ((a:Int)+(b:Int)))+(c:Int))=(a:Int)+b+c:=by
  rw[wk_add_l,wk_eq (by omega) (by omega)]
theorem notbad{N:Int}{l:List Int}(h: ¬ l.any (badP N)=true){k:Nat}(hk:k<l.length): -1≤l[k]∧l[k]<N:=by
  have:=h
  simp only[List.any_eq_true,not_exists,not_and,badP,Bool.or_eq_true,decide_eq_true_eq]at this
  have:=this _ (List.getElem_mem hk)
  omega
theorem Pick_spec{fu:Nat}{t:T_Tensor}{d l:List Int}(hs:Small t)(hf:Fuel fu t)(hd:Short d)(hfd:d.length<fu)(hl:Short l)(hfl:l.length<fu):tens_Pick fu t d l=some (pickV t d l):=by
  unfold tens_Pick pickV jc
  rw[Check_spec hs hf,ob_some]
  by_cases hc:checkV t=0
  · rw [if_pos hc,if_pos hc,New_spec hd hfd,ob_some]
    obtain⟨_,hg0,hlen⟩:=checkV_zero.1 hc
    obtain⟨s1,s2,s3,s4⟩:=hs
    by_cases hn:(newV t.fType d).2=0
    · obtain ⟨hk,hg,e⟩:=newV_ok hn
      rw[if_pos hn,if_pos hn]
      rw[sumW (a:=t.fF.length) (by omega) (by omega) (by omega)]
      have hpn:=prod_nonneg hg.2.1
      have hp4:=hg.2.2
      have hcf:slices_ContainsFunc_int fu l (λy0=>tens_Pick_1 fu y0 ((t.fF.length:Int)+t.fI.length+t.fB.length))=some (l.any (badP (t.fF.length+t.fI.length+t.fB.length))):=ContainsFunc_spec (λx=>pred_spec) hl hfl
      unfold Short at hl
      rw[hcf]
      rcases hk with e1|e1|e1
      · obtain ⟨l1,l2,l3⟩:=hlen
        rw[e1]at e
        simp only[if_true]at e
        simp only[e1,e,if_true,List.length_replicate,List.length_nil]at l1 l2 l3 ⊢
        simp only[show ¬ (1:Int)=7 by decide,show ¬ (1:Int)=9 by decide,if_false]at l2 l3
        rw[sumW (by omega) (by omega) (by omega)]
        by_cases hll:(l.length:Int)=prod d
        · rw [if_pos (by omega),if_pos hll,ob_some]
          by_cases hb:l.any (badP (t.fF.length+t.fI.length+t.fB.length))=true
          · rw[if_pos hb,if_pos hb];rfl
          · rw [if_neg hb,if_neg hb]
            have hnl:(prod d).toNat=l.length:=by omega
            rw[hnl]
            have fin: ∀ m:List Int,m.length=l.length→tens_Pick.c1 fu t l (⟨1,d,List.replicate l.length 0,[],[]⟩,0) m=some (⟨1,d,m,[],[]⟩,0):=fun m hm=>by
              simp[tens_Pick.c1,tens_Pick.c2,tens_Pick.c3,chk,jc,hm]
            by_cases h0:l=[]
            · subst h0
              exact(if_pos rfl).trans (fin [] rfl)
            · have hpos:0<l.length:=List.length_pos_iff.2 h0
              rw[if_neg (by omega)]
              unfold tens_Pick.W3
              refine(pick_loop (λ(m:List Int) (k:Nat)=>(m,(k:Int))) (λ_=>false) (pkOf t.fF 0) 0 (e:=none) (c:=λm=>some (⟨1,d,m,[],[]⟩,0)) ?_ ?_ (λa=>pkOf_neg) hfl).trans (by simp)
              · intro next k m hk hm
                have hnb:=notbad hb hk
                unfold tens_Pick.L3
                simp only[Int.toNat_natCast,List.length_replicate]
                rw[if_pos (by omega),at?_get hk,ob_some,wk_succ (by omega),if_neg (show ¬ (false=true)by decide)]
                by_cases ha:0<=l[k]
                · rw[if_pos ha,if_pos ha,at?_pk (z:=0) ha (by omega),ob_some,chk_pos (by omega),chk_pos (by omega)]
                · rw[if_neg ha,if_neg ha]
              · intro next m hm
                unfold tens_Pick.L3
                rw[if_neg (by simp)]
                exact fin m hm
        · rw[if_neg (by omega),if_neg hll];rfl
      · obtain ⟨l1,l2,l3⟩:=hlen
        rw[e1]at e
        simp only[show ¬ (7:Int)=1 by decide,if_false,if_true]at e
        simp only[e1,e,if_true,List.length_replicate,List.length_nil,show ¬ (7:Int)=1 by decide,show ¬ (7:Int)=9 by decide,if_false]at l1 l2 l3 ⊢
        rw[sumW (by omega) (by omega) (by omega)]
        by_cases hll:(l.length:Int)=prod d
        · rw [if_pos (by omega),if_pos hll,ob_some]
          by_cases hb:l.any (badP (t.fF.length+t.fI.length+t.fB.length))=true
          · rw[if_pos hb,if_pos hb];rfl
          · rw [if_neg hb,if_neg hb]
            have hnl:(prod d).toNat=l.length:=by omega
            rw[hnl]
            have fin: ∀ m:List Int,m.length=l.length→tens_Pick.c2 fu t l (⟨7,d,[],List.replicate l.length 0,[]⟩,0) [] m=some (⟨7,d,[],m,[]⟩,0):=fun m hm=>by
              simp[tens_Pick.c2,tens_Pick.c3,chk,jc,hm]
            rw[if_pos (by simp)]
            unfold tens_Pick.c1;try unfold jc
            rw[chk_pos (by simp)]
            simp only[List.length_replicate]
            by_cases h0:l=[]
            · subst h0
              exact(if_pos rfl).trans (fin [] rfl)
            · have hpos:0<l.length:=List.length_pos_iff.2 h0
              rw[if_neg (by omega)]
              unfold tens_Pick.W2
              refine(pick_loop (λ(m:List Int) (k:Nat)=>(m,(k:Int))) (λ_=>false) (pkOf t.fI 0) 0 (e:=none) (c:=λm=>some (⟨7,d,[],m,[]⟩,0)) ?_ ?_ (λa=>pkOf_neg) hfl).trans (by simp)
              · intro next k m hk hm
                have hnb:=notbad hb hk
                unfold tens_Pick.L2
                simp only[Int.toNat_natCast,List.length_replicate]
                rw[if_pos (by omega),at?_get hk,ob_some,wk_succ (by omega),if_neg (show ¬ (false=true)by decide)]
                by_cases ha:0<=l[k]
                · rw[if_pos ha,if_pos ha,at?_pk (z:=0) ha (by omega),ob_some,chk_pos (by omega),chk_pos (by omega)]
                · rw[if_neg ha,if_neg ha]
              · intro next m hm
                unfold tens_Pick.L2
                rw[if_neg (by simp)]
                exact fin m hm
        · rw[if_neg (by omega),if_neg hll];rfl
      · obtain ⟨l1,l2,l3⟩:=hlen
        rw[e1]at e
        simp only[show ¬ (9:Int)=1 by decide,show ¬ (9:Int)=7 by decide,if_false]at e
        simp only[e1,e,if_true,List.length_replicate,List.length_nil,show ¬ (9:Int)=1 by decide,show ¬ (9:Int)=7 by decide,if_false]at l1 l2 l3 ⊢
        rw[sumW (by omega) (by omega) (by omega)]
        by_cases hll:(l.length:Int)=prod d
        · rw [if_pos (by omega),if_pos hll,ob_some]
          by_cases hb:l.any (badP (t.fF.length+t.fI.length+t.fB.length))=true
          · rw[if_pos hb,if_pos hb];rfl
          · rw [if_neg hb,if_neg hb]
            have hnl:(prod d).toNat=l.length:=by omega
            rw[hnl]
            have fin: ∀ m:List Bool,m.length=l.length→tens_Pick.c3 fu (⟨9,d,[],[],List.replicate l.length false⟩,0) [] [] m=some (⟨9,d,[],[],m⟩,0):=fun m hm=>by
              simp[tens_Pick.c3,chk,hm]
            rw[if_pos (by simp)]
            unfold tens_Pick.c1;try unfold jc
            rw[chk_pos (by simp),if_pos (by simp)]
            unfold tens_Pick.c2;try unfold jc
            rw[chk_pos (by simp)]
            simp only[List.length_replicate]
            by_cases h0:l=[]
            · subst h0
              exact(if_pos rfl).trans (fin [] rfl)
            · have hpos:0<l.length:=List.length_pos_iff.2 h0
              rw[if_neg (by omega)]
              unfold tens_Pick.W1
              refine(pick_loop (λ(m:List Bool) (k:Nat)=>(m,(k:Int))) (λ_=>false) (pkOf t.fB false) false (e:=none) (c:=λm=>some (⟨9,d,[],[],m⟩,0)) ?_ ?_ (λa=>pkOf_neg) hfl).trans (by simp)
              · intro next k m hk hm
                have hnb:=notbad hb hk
                unfold tens_Pick.L1
                simp only[Int.toNat_natCast,List.length_replicate]
                rw[if_pos (by omega),at?_get hk,ob_some,wk_succ (by omega),if_neg (show ¬ (false=true)by decide)]
                by_cases ha:0<=l[k]
                · rw[if_pos ha,if_pos ha,at?_pk (z:=false) ha (by omega),ob_some,chk_pos (by omega),chk_pos (by omega)]
                · rw[if_neg ha,if_neg ha]
              · intro next m hm
                unfold tens_Pick.L1
                rw[if_neg (by simp)]
                exact fin m hm
        · rw[if_neg (by omega),if_neg hll];rfl
    · rw[if_neg hn,if_neg hn];rfl
  · rw[if_neg hc,if_neg hc];rfl
end Go.Av
set_option linter.unusedVariables false
namespace Go.Av
theorem nodup_len: ∀ (n:Nat) (l:List Nat),l.Nodup→(∀ x ∈ l,x<n)→l.length≤n
  |0,[],_,_=>Nat.le_refl _
  |0,x::l,_,h=>by have:=h x (by simp);omega
  | n + 1,l,hn,h=>by
    by_cases hm:n ∈ l
    · have h1:=nodup_len n (l.erase n) (hn.erase n) fun x hx=>by
        have h2:=(hn.mem_erase_iff).1 hx
        have:=h x h2.2
        have:=h2.1
        omega
      have:=List.length_erase_of_mem hm
      omega
    · have:=nodup_len n l hn fun x hx=>by
        have:=h x hx
        have:x≠n:=λe=>hm (e ▸ hx)
        omega
      omega
theorem perm_range: ∀ (n:Nat) (l:List Nat),l.Nodup→(∀ x ∈ l,x<n)→l.length=n→l.Perm (List.range n)
  |0,[],_,_,_=> .refl _
  |0,x::l,_,h,_=>by have:=h x (by simp);omega
  | n + 1,l,hn,h,hl=>by
    by_cases hm:n ∈ l
    · have h1:=perm_range n (l.erase n) (hn.erase n) (fun x hx=>by
        have h2:=(hn.mem_erase_iff).1 hx
        have:=h x h2.2
        have:=h2.1
        omega) (by have:=List.length_erase_of_mem hm;omega)
      rw[List.range_succ]
      exact((List.perm_cons_erase hm).trans (h1.cons n)).trans (List.perm_append_singleton n _).symm
    · have:=nodup_len n l hn fun x hx=>by
        have:=h x hx
        have:x≠n:=λe=>hm (e ▸ hx)
        omega
      omega
def dotV:List Int→List Int→Int
  |x::xs,y::ys=>x*y+dotV xs ys
  |_,_=>0
def gI(l:List Int)(k:Nat):Int:=l.getD k 0
theorem gI_get{l:List Int}{k:Nat}(h:k<l.length):gI l k=l[k]:=by
  unfold gI;rw[List.getD_eq_getElem?_getD,List.getElem?_eq_getElem h];rfl
structure PermOK (p:List Int) (n:Nat):Prop where
  len:p.length=n
  rng: ∀ x ∈ p,0<=x/\x<n
  nod:p.Nodup
theorem PermOK.nat{p:List Int}{n:Nat}(h:PermOK p n):(p.map Int.toNat).Perm (List.range n):=by
  refine perm_range n _ ?_ (λx hx=> ?_) (by simp[h.len])
  · have: ∀ (l:List Int),l.Nodup→(∀ x ∈ l,0≤x)→(l.map Int.toNat).Nodup:=by
      intro l
      induction l with
      |nil=>intro _ _;simp
      | cons x l ih=>
        intro hn hr
        rw[List.nodup_cons]at hn
        rw[List.map_cons,List.nodup_cons]
        refine⟨λhm=> ?_,ih hn.2 λy hy=>hr y (by simp[hy])⟩
        obtain⟨y,hy,he⟩:=List.mem_map.1 hm
        have h1:=hr x (by simp)
        have h2:=hr y (by simp[hy])
        have:y=x:=by omega
        exact hn.1 (this ▸ hy)
    exact this p h.nod λx hx=>(h.rng x hx).1
  · obtain⟨y,hy,rfl⟩:=List.mem_map.1 hx
    have:=h.rng y hy
    omega
structure IsBack (p b:List Int) (n:Nat):Prop where
  len:b.length=n
  at_: ∀ i,i<n->gI b (gI p i).toNat=i
theorem PermOK.get{p:List Int}{n:Nat}(h:PermOK p n){i:Nat}(hi:i<n):0≤gI p i∧gI p i<n:=by
  have hl:=h.len
  rw[gI_get (by omega)];exact h.rng _ (List.getElem_mem _)
theorem PermOK.onto{p:List Int}{n:Nat}(h:PermOK p n){j:Nat}(hj:j<n): ∃ i,i<n∧gI p i=j:=by
  have hl:=h.len
  have:j ∈ p.map Int.toNat:=h.nat.mem_iff.2 (List.mem_range.2 hj)
  obtain⟨x,hx,he⟩:=List.mem_map.1 this
  obtain⟨i,hi,rfl⟩:=List.getElem_of_mem hx
  have:=h.rng _ hx
  exact⟨i,by omega,by rw[gI_get hi];omega⟩
theorem IsBack.inv{p b:List Int}{n:Nat}(hp:PermOK p n)(h:IsBack p b n){j:Nat}(hj:j<n):0≤gI b j∧gI b j<n∧gI p (gI b j).toNat=j:=by
  obtain⟨i,hi,he⟩:=hp.onto hj
  have h1:=h.at_ i hi
  rw[he,Int.toNat_natCast]at h1
  rw[h1]
  refine⟨by omega,by omega,?_⟩
  rw[Int.toNat_natCast];exact he
theorem okIx_of: ∀ {l xs:List Int},xs.length=l.length→(∀ j,j<l.length→0≤gI xs j∧gI xs j<gI l j)→okIx l xs=true
  |[],[],_,_=>rfl
  | d ::l,x::xs,hl,h=>by
    have h0:=h 0 (by simp)
    have h1:=okIx_of (l:=l) (xs:=xs) (by simpa using hl) fun j hj=>by
      have:=h (j+1) (by simp;omega)
      simpa[gI]using this
    simp[gI]at h0
    simp[okIx,h0,h1]
theorem okIx_at: ∀ {l xs:List Int},xs.length=l.length→okIx l xs=true→ ∀ j,j<l.length→0≤gI xs j∧gI xs j<gI l j
  |[],[],_,_,j,hj=>by simp at hj
  | d ::l,x::xs,hl,h,j,hj=>by
    simp only[okIx,Bool.and_eq_true,decide_eq_true_eq]at h
    cases j with
    |zero=>simpa[gI]using h.1
    | succ j=>
      have:=okIx_at (l:=l) (xs:=xs) (by simpa using hl) h.2 j (by simpa using hj)
      simpa[gI]using this
theorem offV_lt: ∀ {l xs:List Int},(∀ x ∈ l,0≤x)→xs.length=l.length→okIx l xs=true→0≤offV l xs∧offV l xs<prod l
  |[],[],_,_,_=>by simp[offV,prod]
  | d::l,x::xs,hp,hl,h=>by
    simp only[okIx,Bool.and_eq_true,decide_eq_true_eq]at h
    obtain⟨h1,h2⟩:=offV_lt (l:=l) (xs:=xs) (λy hy=>hp y (by simp[hy])) (by simpa using hl) h.2
    simp only[offV,prod]
    have m1:(x+1)*prod l<=d*prod l:=Int.mul_le_mul_of_nonneg_right (by omega) (by omega)
    rw[Int.add_mul,Int.one_mul]at m1
    have m2:0<=x*prod l:=Int.mul_nonneg h.1.1 (by omega)
    omega
def strV:List Int→List Int
  |[]=>[]
  |_::l=>prod l::strV l
theorem dot_strV: ∀ {l xs:List Int},dotV xs (strV l)=offV l xs
  |[],[]=>rfl
  |[],x::xs=>rfl
  |d::l,[]=>rfl
  |d::l,x::xs=>by simp only[strV,dotV,offV,dot_strV]
end Go.Av
set_option linter.unusedVariables false
namespace Go.Av
theorem cloop_suc{σ β:Type}{body:(σ->Option β)->σ->Option β}{n:Nat}{s:σ}:cloop body (n+1) s=body (cloop body n) s:=rfl
theorem cloop_to{τ β:Type}{body:(τ→Option β)→τ→Option β}(N:Nat)(st:Nat→τ)(r:Option β)(h: ∀ k,k<N→ ∀ next,next (st (k+1))=r→body next (st k)=r)
    (he: ∀ next,body next (st N)=r) {n:Nat} (hn:N<n):cloop body n (st 0)=r:=by
  have: ∀ m k,k≤N→N - k<m→cloop body m (st k)=r:=by
    intro m
    induction m with
    |zero=>intro k _ h;omega
    | succ m ih=>
      intro k hk hm
      by_cases hkN:k=N
      · subst hkN;exact he _
      · exact h k (by omega) _ (ih (k+1) (by omega) (by omega))
  exact this n 0 (by omega) (by omega)
def incV(d i:List Int):Nat→Option (List Int)
  |0=>none
  |m+1=>if gI i m+1<gI d m then some (i.take m++(gI i m+1)::List.replicate (d.length - (m+1)) 0)else incV d i m
theorem incV_cons{d x:Int}{l xs:List Int}: ∀ m,incV (d::l) (x::xs) (m+1)=match incV l xs m with|some ys=>some (x::ys)|none=>if x+1<d then some ((x+1)::List.replicate l.length 0)else none
  |0=>by simp[incV,gI]
  | m +1=>by
    have ih:=incV_cons (d:=d) (x:=x) (l:=l) (xs:=xs) m
    rw[incV]
    have e1:gI (x::xs) (m+1)=gI xs m:=by simp[gI]
    have e2:gI (d::l) (m+1)=gI l m:=by simp[gI]
    rw[e1,e2]
    conv=>rhs;rw[incV]
    by_cases h:gI xs m+1<gI l m
    · rw[if_pos h,if_pos h]
      simp
    · rw[if_neg h,if_neg h,ih]
theorem idxV_zero: ∀ {l:List Int},idxV l 0=List.replicate l.length 0
  |[]=>rfl
  |d::l=>by simp[idxV,idxV_zero,List.replicate_succ]
theorem incV_idx: ∀ {l:List Int} {k:Int},(∀ x ∈ l,1≤x)→0≤k→k<prod l→incV l (idxV l k) l.length=if k+1<prod l then some (idxV l (k+1))else none
  | [],k,_,h0,h1=>by
    have h1':k<1:=h1
    rw[if_neg (show ¬ k+1<prod []from λh=>by have h':k+1<1:=h;omega)];rfl
  | d ::l,k,hp,h0,h1=>by
    have hp': ∀ x ∈ l,1<=x:=λx hx=>hp x (by simp[hx])
    have hq:1<=prod l:=prod_pos hp'
    have hr0:=Int.emod_nonneg k (b:=prod l) (by omega)
    have hr1:=Int.emod_lt_of_pos k (b:=prod l) (by omega)
    have hq0:0<=k / prod l:=Int.ediv_nonneg h0 (by omega)
    have hq1:k / prod l<d:=Int.ediv_lt_of_lt_mul (by omega) h1
    have hk:=Int.mul_ediv_add_emod k (prod l)
    have ih:=incV_idx hp' hr0 hr1
    rw[List.length_cons]
    show incV (d::l) (k / prod l::idxV l (k%prod l)) (l.length+1)=_
    rw[incV_cons,ih]
    have hpd:prod (d::l)=d*prod l:=rfl
    rw[hpd]at h1 ⊢
    clear hpd ih hp'
    generalize hqq:k / prod l=q at*
    generalize hrr:k%prod l=r at*
    generalize hP:prod l=P at*
    by_cases hc:r+1<P
    · rw[if_pos hc]
      have e:k+1=P*q+(r+1):=by omega
      have e1:(k+1) / P=q:=by rw[e,Int.add_comm,Int.add_mul_ediv_left _ _ (by omega),Int.ediv_eq_zero_of_lt (by omega) hc];omega
      have e2:(k+1)%P=r+1:=by rw[e,Int.add_comm,Int.add_mul_emod_self_left,Int.emod_eq_of_lt (by omega) hc]
      have m1:(q+1)*P<=d*P:=Int.mul_le_mul_of_nonneg_right (by omega) (by omega)
      rw[Int.add_mul,Int.one_mul,Int.mul_comm q P]at m1
      rw[if_pos (show k+1<d*P by omega)]
      simp only[idxV,hP,e1,e2]
    · rw[if_neg hc]
      have e:k+1=P*(q+1):=by rw[Int.mul_add,Int.mul_one];omega
      have e1:(k+1) / P=q+1:=by rw[e,Int.mul_ediv_cancel_left _ (by omega)]
      have e2:(k+1)%P=0:=by rw[e,Int.mul_emod_right]
      simp only
      by_cases hd:q+1<d
      · have m1:(q+1+1)*P≤d*P:=Int.mul_le_mul_of_nonneg_right (by omega) (by omega)
        rw[Int.add_mul,Int.one_mul,Int.mul_comm (q+1) P]at m1
        rw[if_pos hd,if_pos (show k+1<d*P by omega)]
        simp only[idxV,hP,e1,e2,idxV_zero]
      · have m1:d*P≤(q+1)*P:=Int.mul_le_mul_of_nonneg_right (by omega) (by omega)
        rw[Int.mul_comm (q+1) P]at m1
        rw[if_neg hd,if_neg (show ¬ k+1<d*P by omega)]
theorem take_get{i:List Int}{m:Nat}(h:m<i.length):i.take (m+1)=i.take m++[gI i m]:=by
  rw[List.take_add_one,List.getElem?_eq_getElem h,gI_get h];rfl
theorem set_mid{a b:List Int}{x y:Int}{m:Nat}(h:a.length=m):(a++x::b).set m y=a++y::b:=by
  subst h
  rw[List.set_append_right _ _ (Nat.le_refl _)]
  simp
theorem get_mid{a b:List Int}{x:Int}{m:Nat}(h:a.length=m):at? (a++x::b) (m:Int)=some x:=by
  subst h
  rw[at?_get (by simp)]
  simp
theorem inner_a{fu:Nat}{t:T_Tensor}{i l0:List Int}{a b c e v:Int}{nx1:List Int→List Int→Option (List Int)}(hv:wk .i64 (a+wk .i64 (wk .i64 (b - c)*e))=v)(hl:i.length=t.fDims.length)(hd:t.fDims.length≤8)(hi: ∀ j,j<t.fDims.length→0≤gI i j∧gI i j≤4096):
    ∀ (m q:Nat),m≤t.fDims.length→m<q→cloop (fun next s=>moves_move_along.L2 fu nx1 t l0 a b c e (fun a b=>next (a,b)) s.1 s.2) q (i.take m++List.replicate (t.fDims.length - m) 0,(m:Int) - 1)=
      match incV t.fDims i m with|some ys=>nx1 (l0++[v]) ys|none=>some (l0++[v])
  | 0,q,hm,hq=>by
    obtain⟨q,rfl⟩: ∃ q',q=q'+1:=⟨q - 1,by omega⟩
    rw[cloop_suc]
    show moves_move_along.L2 fu nx1 t l0 a b c e _ _ _=_
    rw[moves_move_along.L2,hv]
    dsimp only
    rw[if_neg (by omega)]
    rfl
  | m +1,q,hm,hq=>by
    obtain⟨q,rfl⟩: ∃ q',q=q'+1:=⟨q - 1,by omega⟩
    obtain⟨i0,i1⟩:=hi m (by omega)
    have htl:(i.take m).length=m:=by simp;omega
    rw[cloop_suc]
    show moves_move_along.L2 fu nx1 t l0 a b c e _ _ _=_
    rw[moves_move_along.L2,hv]
    dsimp only
    rw[show((m+1:Nat):Int) - 1=(m:Int)by omega,if_pos (by omega),take_get (by omega),List.append_assoc]
    show(at? (i.take m++gI i m::List.replicate (t.fDims.length - (m+1)) 0) (m:Int)).bind _=_
    have hlen:(i.take m++gI i m::List.replicate (t.fDims.length - (m+1)) 0).length=t.fDims.length:=by simp;omega
    rw[get_mid htl,ob_some,chk_pos (by simp;omega),Int.toNat_natCast,wk_eq (x:=gI i m+1) (by omega) (by omega)]
    show(at? ((i.take m++gI i m::List.replicate (t.fDims.length - (m+1)) 0).set m (gI i m+1)) (m:Int)).bind _=_
    rw[set_mid htl,get_mid htl,ob_some,at?_get (by omega),ob_some]
    conv=>rhs;rw[incV]
    rw[← gI_get (l:=t.fDims) (by omega)]
    by_cases hc:gI i m+1<gI t.fDims m
    · rw[if_pos hc,if_pos hc]
      show nx1 (l0++[v]) ((i.take m++gI i m::List.replicate (t.fDims.length - (m+1)) 0).set m (gI i m+1))=_
      rw[set_mid htl]
    · rw[if_neg hc,if_neg hc]
      show chk (0<=(m:Int)/\(m:Int)<(((i.take m++gI i m::List.replicate (t.fDims.length - (m+1)) 0).set m (gI i m+1)).length:Int)) (cloop _ q (((i.take m++gI i m::List.replicate (t.fDims.length - (m+1)) 0).set m (gI i m+1)).set m 0,wk .i64 ((m:Int) - 1)))=_
      rw[chk_pos (by rw[List.length_set,hlen];omega),set_mid htl,set_mid htl,wk_eq (by omega) (by omega)]
      have:=inner_a (nx1:=nx1) (t:=t) (fu:=fu) (l0:=l0) (v:=v) hv hl hd hi m q (by omega) (by omega)
      rw[← this]
      congr 2
      rw[show t.fDims.length - m=(t.fDims.length - (m+1))+1 by omega,List.replicate_succ]
theorem idx_small{l:List Int}{k:Int}(hg:Good l)(hp: ∀ x ∈ l,1≤x)(h0:0≤k)(h1:k<prod l): ∀ j,j<l.length→0≤gI (idxV l k) j∧gI (idxV l k) j≤4096:=fun j hj=>by
  have h2:=okIx_at (idxV_length l k) (okIx_idx hp h0 h1) j hj
  have h3:=hg.2.1 _ (List.getElem_mem hj)
  rw[← gI_get hj]at h3
  omega
theorem along_spec{fu:Nat}{x y:T_Tensor}{op:Int}{s:T_Setting}{L:List T_Tensor}{nm:List Int}{k N:Nat}{f:Nat→Int}(hy:at? L (1:Int)=some y)(hg:Good y.fDims)(hN:prod y.fDims=(N:Int))(hf:5000<fu)
    (hst:moves_strides fu x.fDims=some (strdW x.fDims))
    (hp: ∀ j:Nat,j<N-> ∃ a b c e,moves_dot fu (idxV y.fDims (j:Int)) (strdW x.fDims)=some a/\at? nm (j:Int)=some b/\at? (idxV y.fDims (j:Int)) (k:Int)=some c/\at? (strdW x.fDims) (k:Int)=some e/\wk .i64 (a+wk .i64 (wk .i64 (b - c)*e))=f j):
    moves_move_along fu ⟨op,s,L,x,(k:Int)⟩ nm=some ((List.range N).map f):=by
  have h8:=hg.1
  have h4:=hg.2.2
  unfold moves_move_along
  dsimp only
  rw[hst,ob_some,hy,ob_some,Contains_spec (by unfold Short;omega) (by omega),ob_some]
  by_cases hz:(y.fDims.any λz=>decide ((0:Int)=z))=true
  · have hz':(0:Int) ∈ y.fDims:=by
      obtain⟨z,hx,hx2⟩:=List.any_eq_true.1 hz
      simp at hx2;subst hx2;exact hx
    have:N=0:=by have:=prod_zero hz';omega
    subst this
    rw[if_pos hz];rfl
  · rw [if_neg hz]
    have hpos: ∀ z ∈ y.fDims,1≤z:=fun z hx=>by
      have:=(hg.2.1 z hx).1
      simp only[List.any_eq_true,decide_eq_true_eq,not_exists,not_and]at hz
      have:=hz z hx;omega
    have h1:=prod_pos hpos
    rw[chk_pos (by omega),Int.toNat_natCast]
    unfold moves_move_along.W1
    have hz0:(([]:List Int),List.replicate y.fDims.length (0:Int))=((λj:Nat=>((List.range j).map f,idxV y.fDims (j:Int))) 0):=by simp[idxV_zero]
    rw[hz0]
    have step: ∀ (j:Nat),j<N→ ∀ (next:List Int×List Int→Option (List Int)),moves_move_along.L1 fu ⟨op,s,L,x,(k:Int)⟩ nm (strdW x.fDims) y (fun a b=>next (a,b)) ((List.range j).map f) (idxV y.fDims (j:Int))=if j+1<N then next ((List.range (j+1)).map f,idxV y.fDims ((j+1:Nat):Int))else some ((List.range (j+1)).map f):=fun j hj next=>by
      have hlk:((List.range j).map f).length=j:=by simp
      obtain⟨a,b,c,e,h1',h2',h3',h4',h5'⟩:=hp j hj
      unfold moves_move_along.L1 moves_move_along.W2
      dsimp only
      rw[h1',ob_some,hlk,h2',ob_some,h3',ob_some,h4',ob_some,chk_pos (by omega),wk_eq (by omega) (by omega)]
      have hil:(idxV y.fDims (j:Int)).length=y.fDims.length:=idxV_length _ _
      have:=inner_a (fu:=fu) (t:=y) (l0:=(List.range j).map f) (v:=f j) (nx1:=λa b=>next (a,b)) h5' hil h8 (idx_small hg hpos (by omega) (by omega)) y.fDims.length fu (Nat.le_refl _) (by omega)
      rw[Nat.sub_self,List.replicate_zero,List.append_nil,List.take_of_length_le (by omega),incV_idx hpos (by omega) (by omega)]at this
      rw[this]
      have e:(List.range j).map f++[f j]=(List.range (j+1)).map f:=by rw[List.range_succ,List.map_append];rfl
      by_cases hc:j+1<N
      · rw[if_pos hc,if_pos (by omega),e]
        show next (_,_)=_
        rw[show((j:Int)+1)=((j+1:Nat):Int)by omega]
      · rw[if_neg hc,if_neg (by omega),e]
    refine cloop_to (N - 1) (λj:Nat=>((List.range j).map f,idxV y.fDims (j:Int))) _ ?_ ?_ (by omega)
    · intro j hj next hn
      show moves_move_along.L1 fu _ nm _ y (λa b=>next (a,b)) ((List.range j).map f) (idxV y.fDims (j:Int))=_
      rw[step j (by omega),if_pos (by omega)]
      exact hn
    · intro next
      show moves_move_along.L1 fu _ nm _ y (λa b=>next (a,b)) ((List.range (N - 1)).map f) (idxV y.fDims ((N - 1:Nat):Int))=_
      rw[step (N - 1) (by omega),if_neg (by omega),show N - 1+1=N by omega]
end Go.Av
set_option linter.unusedVariables false
namespace Go.Av
def zeroVal:T_Val:=⟨0,[],false,⟨0,[],[],[],[]⟩⟩
def valOf(t:T_Tensor):T_Val:=if t.fType=0 then zeroVal else⟨t.fType,t.fDims,true,t⟩
def Tens(fu:Nat)(l:List T_Tensor):Prop:=l.length<=1048576/\l.length<fu/\ ∀ t ∈ l,Ten t/\Fuel fu t
theorem CloneI_spec{fu:Nat}{l:List Int}(h:l.length*8≤140737488351232):slices_Clone_int fu l=some l:=by
  unfold slices_Clone_int;rw[chk_pos (by omega)]
theorem take_next{α β:Type}{f:α→β}{l:List α}{k:Nat}(hk:k<l.length):(l.take (k+1)).map f=(l.take k).map f++[f l[k]]:=by
  rw[List.take_add_one,List.getElem?_eq_getElem hk,List.map_append];rfl
theorem Vals_all{fu:Nat}{l:List T_Tensor}(h:Tens fu l):ewise_Vals fu l=some (l.map valOf):=by
  unfold ewise_Vals ewise_Vals.W1
  have hl0:=h.1
  refine cloop_up l.length (λk=>(l.take k).map valOf) _ ?_ ?_ h.2.1
  · intro k hk next hn
    have ht:=(h.2.2 _ (List.getElem_mem hk)).1
    show ewise_Vals.L1 fu l _ _ (k:Int)=_
    have hl:((l.take k).map valOf).length=k:=by simp;omega
    rw[take_next hk]at hn
    rw[ewise_Vals.L1,if_pos (by omega),at?_get hk,ob_some,wk_succ (by omega)]
    by_cases h0:l[k].fType=0
    · rw[if_pos h0,chk_pos (by rw[hl];omega)]
      rw[valOf,if_pos h0]at hn
      exact hn
    · rw[if_neg h0,CloneI_spec ht.1,ob_some,Copy_spec ht,ob_some,chk_pos (by rw[hl];omega)]
      rw[valOf,if_neg h0]at hn
      exact hn
  · intro next
    show ewise_Vals.L1 fu l _ _ (l.length:Int)=_
    rw[ewise_Vals.L1,if_neg (by omega),List.take_length]
end Go.Av
set_option linter.unusedVariables false
namespace Go.Av
theorem drop_same{a b:List Int}{i:Nat}(ha:i<a.length)(hb:i<b.length):a.drop i=b.drop i ↔ a[i]=b[i]∧a.drop (i+1)=b.drop (i+1):=by
  rw[List.drop_eq_getElem_cons ha,List.drop_eq_getElem_cons hb]
  exact List.cons_eq_cons
theorem SameInts_spec{fu:Nat}{a b:List Int}(hl:Short a)(hf:a.length<fu):ref04_SameInts fu a b=some (decide (a=b)):=by
  unfold ref04_SameInts ref04_SameInts.W1
  by_cases hlen:a.length=b.length
  · rw [if_pos (by omega)]
    refine(cloop_ind (λ(i:Int)=>some (decide (a.drop i.toNat=b.drop i.toNat))) (λi=>0<=i/\i<=a.length) (λi=>a.length - i.toNat) ?_ fu 0 (by simp) (by simp;omega)).trans (by simp)
    rintro i ⟨h0,h1⟩ next hn
    obtain⟨k,rfl⟩:=Int.eq_ofNat_of_zero_le h0
    unfold ref04_SameInts.L1
    simp only[Int.toNat_natCast]
    by_cases hk:k<a.length
    · rw[if_pos (by omega),at?_get hk,ob_some,at?_get (by omega:k<b.length),ob_some,wk_succ (by unfold Short at hl;omega)]
      have hd:=drop_same hk (by omega:k<b.length)
      by_cases he:a[k]=b[k]
      · rw[if_pos he,hn _ (by omega) (by simp;omega)]
        simp[hd,he]
      · rw[if_neg he]
        simp[hd,he]
    · rw[if_neg (by omega)]
      have e1:a.drop k=b.drop k:=by rw[List.drop_of_length_le (by omega),List.drop_of_length_le (by omega)]
      simp[e1]
  · rw[if_neg (by omega)]
    have: ¬ a=b:=λh=>hlen (by rw[h])
    simp[this]
end Go.Av
set_option linter.unusedVariables false
namespace Go.Av
theorem same_loop{α:Type}[DecidableEq α]{a b:List α}(hl:a.length=b.length){fu:Nat}(hf:a.length<fu)(hs:a.length≤140737488355328){L:(Int→Option Bool)→Int→Option Bool}{c:Option Bool}
    (hL: ∀ nx i,L nx i=if i<(a.length:Int)then((at? a i).bind λx=>(at? b i).bind λy=>if x=y then(nx (wk .i64 (i+1)))else some false)else c):cloop L fu 0=if a=b then c else some false:=by
  refine(cloop_ind (λ(i:Int)=>if a.drop i.toNat=b.drop i.toNat then c else some false) (λi=>0<=i/\i<=a.length) (λi=>a.length - i.toNat) ?_ fu 0 (by simp) (by simp;omega)).trans (by simp)
  rintro i ⟨h0,h1⟩ next hn
  obtain⟨k,rfl⟩:=Int.eq_ofNat_of_zero_le h0
  rw[hL]
  simp only[Int.toNat_natCast]
  by_cases hk:k<a.length
  · have hkb:k<b.length:=by omega
    have hd:a.drop k=b.drop k ↔ a[k]=b[k]∧a.drop (k+1)=b.drop (k+1):=by
      rw[List.drop_eq_getElem_cons hk,List.drop_eq_getElem_cons hkb];exact List.cons_eq_cons
    rw[if_pos (by omega),at?_get hk,ob_some,at?_get hkb,ob_some,wk_succ (by omega)]
    by_cases he:a[k]=b[k]
    · rw[if_pos he,hn _ (by omega) (by simp;omega)]
      by_cases h2:a.drop (k+1)=b.drop (k+1)
      · rw[if_pos (by simpa using h2),if_pos (hd.2 ⟨he,h2⟩)]
      · rw[if_neg (by simpa using h2),if_neg (λh=>h2 (hd.1 h).2)]
    · rw[if_neg he,if_neg (λh=>he (hd.1 h).1)]
  · rw[if_neg (by omega),if_pos (by rw[List.drop_of_length_le (by omega),List.drop_of_length_le (by omega)])]
theorem refSame_spec{fu:Nat}{a b:T_Tensor}(hs:Small a)(hf:Fuel fu a):ref05_Same fu a b=some (sameT a b):=by
  obtain⟨s1,s2,s3,s4⟩:=hs
  obtain⟨f1,f2,f3,f4⟩:=hf
  unfold ref05_Same sameT;try unfold jn
  by_cases h1:a.fType=b.fType
  · rw [if_pos h1,SameInts_spec (by unfold Short;omega) f1,ob_some]
    by_cases h2:a.fDims=b.fDims
    · rw [if_pos (by simpa using h2)]
      by_cases l3:a.fF.length=b.fF.length
      · rw [if_pos (by omega)]
        by_cases l4:a.fI.length=b.fI.length
        · rw[if_pos (by omega)]
          by_cases l5:a.fB.length=b.fB.length
          · rw[if_pos (by omega)]
            unfold ref05_Same.k1 ref05_Same.W3;try unfold jn
            rw[same_loop (L:=λnext s=>ref05_Same.L3 fu a b next s) (a:=a.fF) (b:=b.fF) l3 f2 (by omega) (c:=ref05_Same.k2 fu a b) (λnx i=>rfl)]
            unfold ref05_Same.k2 ref05_Same.W2;try unfold jn
            rw[same_loop (L:=λnext s=>ref05_Same.L2 fu a b next s) (a:=a.fI) (b:=b.fI) l4 f3 (by omega) (c:=ref05_Same.k3 fu a b) (λnx i=>rfl)]
            unfold ref05_Same.k3 ref05_Same.W1
            rw[same_loop (L:=λnext s=>ref05_Same.L1 fu a b next s) (a:=a.fB) (b:=b.fB) l5 f4 (by omega) (c:=some true) (λnx i=>by unfold ref05_Same.L1;simp only[beq_iff_eq])]
            by_cases e3:a.fF=b.fF <;> by_cases e4:a.fI=b.fI <;> by_cases e5:a.fB=b.fB <;> simp[h1,h2,e3,e4,e5]
          · rw[if_neg (by omega)]
            have: ¬ a.fB=b.fB:=λh=>l5 (by rw[h])
            simp[this]
        · rw[if_neg (by omega)]
          have: ¬ a.fI=b.fI:=λh=>l4 (by rw[h])
          simp[this]
      · rw[if_neg (by omega)]
        have: ¬ a.fF=b.fF:=λh=>l3 (by rw[h])
        simp[this]
    · rw[if_neg (by simpa using h2)]
      simp[h2]
  · rw[if_neg h1]
    simp[h1]
end Go.Av
set_option linter.unusedVariables false
namespace Go.Av
def axisV(a:Int)(n:Nat):Option Int:=if 0<=a then(if a<n then some a else none)else if -(n:Int)<=a then some (n+a)else none
theorem Axis_spec{fu:Nat}{a:Int}{n:Nat}(hn:n≤100):shape_Axis fu a (n:Int)=some (match axisV a n with|some k=>(k,0)|none=>(0,2)):=by
  unfold shape_Axis axisV
  rw[if_neg (by omega),wk_eq (x:=0 - (n:Int)) (by omega) (by omega)]
  by_cases h:0<=a
  · rw[if_pos h,if_pos h]
    by_cases h1:a<n
    · rw[if_pos h1,if_pos h1]
    · rw[if_neg h1,if_neg h1]
  · rw[if_neg h,if_neg h]
    by_cases h1:0 - (n:Int)<=a
    · rw[if_pos h1,if_pos (show -(n:Int)<=a by omega),wk_eq (by omega) (by omega)]
    · rw[if_neg h1,if_neg (show ¬ -(n:Int)<=a by omega)]
theorem axisV_rng{a:Int}{n:Nat}{k:Int}(h:axisV a n=some k):0≤k∧k<n:=by
  unfold axisV at h
  split at h
  · split at h
    · injection h with h;omega
    · cases h
  · split at h
    · injection h with h;omega
    · cases h
section
variable {fu:Nat}
end
theorem dotV_nonneg: ∀ {xs ys:List Int},(∀ x ∈ xs,0≤x)→(∀ y ∈ ys,0≤y)→0≤dotV xs ys
  |[],_,_,_=>by simp[dotV]
  |_::_,[],_,_=>by simp[dotV]
  | x::xs,y::ys,hx,hy=>by
    have h1:=dotV_nonneg (xs:=xs) (ys:=ys) (λz hz=>hx z (by simp[hz])) (λz hz=>hy z (by simp[hz]))
    have h2:0<=x*y:=Int.mul_nonneg (hx x (by simp)) (hy y (by simp))
    simp only[dotV];omega
theorem strdW_pos: ∀ {l:List Int},(∀ x ∈ l,1≤x)→prod l≤1000000→strdW l=strV l
  |[],_,_=>rfl
  | d::l,h,hb=>by
    have h': ∀ x ∈ l,1<=x:=λx hx=>h x (by simp[hx])
    have h1:=prod_pos h'
    have h2:1*prod l<=d*prod l:=Int.mul_le_mul_of_nonneg_right (h d (by simp)) (by omega)
    simp only[prod]at hb
    have h3:prod l<=1000000:=by omega
    simp only[strdW,strV]
    rw[strdW_pos h' h3,wk_eq (by omega) (by omega)]
theorem strV_nonneg: ∀ {l:List Int},(∀ x ∈ l,1≤x)→ ∀ y ∈ strV l,0≤y
  |[],_,y,hy=>by simp[strV]at hy
  | d::l,h,y,hy=>by
    have h': ∀ x ∈ l,1<=x:=λx hx=>h x (by simp[hx])
    simp only[strV,List.mem_cons]at hy
    rcases hy with rfl|hy
    · have:=prod_pos h';omega
    · exact strV_nonneg h' y hy
theorem idxV_nonneg{l:List Int}{k:Int}(hp: ∀ x ∈ l,1≤x)(h0:0≤k)(h1:k<prod l): ∀ x ∈ idxV l k,0≤x:=fun x hx=>by
  obtain⟨j,hj,rfl⟩:=List.getElem_of_mem hx
  have:=okIx_at (idxV_length l k) (okIx_idx hp h0 h1) j (by rw[idxV_length]at hj;exact hj)
  rw[gI_get hj]at this
  exact this.1
section
variable {fu:Nat}
theorem strides_m{l:List Int}(hg:Good l)(hf:20<fu):moves_strides fu l=some (strdW l):=by
  have h8:=hg.1
  unfold moves_strides shape_Strides
  rw[Size_spec (by unfold Short;omega) (by omega),ob_some,sizeV,if_pos hg,if_pos rfl,strides_spec (by omega) (by omega),ob_some,ob_some]
theorem canonT_check{t:T_Tensor}:checkV (canonT t)=checkV t:=by
  unfold checkV LensOK canonT
  simp only[List.length_map]
theorem canonT_small{t:T_Tensor}(h:Ten t):Small (canonT t):=by
  have:=h.small
  unfold Small canonT at*
  simpa using this
theorem canonT_fuel{t:T_Tensor}(h:Fuel fu t):Fuel fu (canonT t):=by
  unfold Fuel canonT at*
  simpa using h
end
theorem pk_get{α:Type}{L:List α}{z:α}{a:Int}(h0:0≤a)(h1:a<L.length):pkOf L z a=L[a.toNat]'(by omega):=by
  unfold pkOf
  rw[if_pos h0,List.getD_eq_getElem?_getD,List.getElem?_eq_getElem (by omega)]
  rfl
theorem len_small{t:T_Tensor}(hc:checkV t=0):t.fDims.length≤8∧t.fF.length≤4096∧t.fI.length≤4096∧t.fB.length≤4096:=by
  obtain⟨hk,hg,l1,l2,l3⟩:=checkV_zero.1 hc
  have h8:=hg.1
  have h4:=hg.2.2
  refine⟨h8,?_,?_,?_⟩
  · split at l1 <;> omega
  · split at l2 <;> omega
  · split at l3 <;> omega
theorem refCanonF_spec{fu:Nat}{x:Int}(h0:0≤x):ref01_Canon fu x=some (canonF x):=by
  unfold ref01_Canon ref01_IsNone ref01_Abs canonF
  rw[Int.tmod_eq_emod_of_nonneg h0,ob_some,ob_some]
  by_cases h:2139095040<x%2147483648 <;> simp[h]
theorem refCopy_spec{fu:Nat}{t:T_Tensor}(h:Ten t):ref05_Copy fu t=some t:=by
  obtain⟨h1,h2,h3,h4,_⟩:=h
  unfold ref05_Copy
  rw[chk_pos (by omega),chk_pos (by omega),chk_pos (by omega),chk_pos (by omega)]
theorem refCanon_spec{fu:Nat}{t:T_Tensor}(h:Ten t)(hf:t.fF.length<fu):ref05_Canon fu t=some (canonT t):=by
  have hu:=h.2.2.2.2
  have hl:=h.2.1
  unfold ref05_Canon
  rw[refCopy_spec h,ob_some]
  unfold ref05_Canon.W1
  refine map_loop (f:=canonF) (c:=λm=>some (T_Tensor.mk t.fType t.fDims m t.fI t.fB)) hf ?_ ?_
  · intro next k m hk hm hg
    unfold ref05_Canon.L1
    simp only[]
    obtain⟨u1,u2⟩:=hu _ (List.getElem_mem hk)
    rw[if_pos (by omega),at?_nat,hg,ob_some,refCanonF_spec u1,ob_some,chk_pos (by omega),wk_succ (by omega)]
    rfl
  · intro next m hm
    unfold ref05_Canon.L1
    rw[if_neg (by simp only[];omega)]
end Go.Av
set_option linter.unusedVariables false
set_option linter.unusedSimpArgs false
namespace Go.Av
def sA(a:Int):T_Setting:=T_Setting.mk a ([]) false false false false false ([]) false 0 0 0 false false false 0 0 false false 0 ([]) ([]) ([]) ([]) 0 false false 0 0 0 false (T_Tensor.mk 0 ([]) ([]) ([]) ([]))
theorem cloop_q{τ β:Type}{body:(τ→Option β)→τ→Option β}(N:Nat)(st:Nat→τ)(P:Nat→Prop)(Q:Option β→Prop)
    (h: ∀ k,k<N->P k-> ∀ next,(P (k+1)->Q (next (st (k+1))))->Q (body next (st k))) (he:P N-> ∀ next,Q (body next (st N))) (h0:P 0) {n:Nat} (hn:N<n):Q (cloop body n (st 0)):=by
  have : ∀ m k,k≤N→N - k<m→P k→Q (cloop body m (st k)):=by
    intro m
    induction m with
    |zero=>intro k _ h;omega
    | succ m ih=>
      intro k hk hm hp
      rw[cloop_suc]
      by_cases hlt:k<N
      · exact h k hlt hp _ (λhp'=>ih (k+1) (by omega) (by omega) hp')
      · obtain rfl:k=N:=by omega
        exact he hp _
  exact this n 0 (by omega) (by omega) h0
def wdt(t:Int):Int:=if t=1 then 4 else if t=7 then 8 else if t=9 then 1 else 0
theorem width_spec{fu:Nat}{t:Int}:tens_Width fu t=some (wdt t):=by
  unfold tens_Width wdt
  by_cases h1:t=1
  · simp[h1]
  · by_cases h2:t=7
    · simp[h2]
    · by_cases h3:t=9 <;> simp[h1,h2,h3]
theorem wdt_zero{t:Int}:wdt t=0 ↔ ¬ Known t:=by
  unfold wdt Known
  by_cases h1:t=1
  · simp[h1]
  · by_cases h2:t=7
    · simp[h2]
    · by_cases h3:t=9 <;> simp[h1,h2,h3]
theorem wdt_pos{t:Int}:0<wdt t ↔ Known t:=by
  unfold wdt Known
  by_cases h1:t=1
  · simp[h1]
  · by_cases h2:t=7
    · simp[h2]
    · by_cases h3:t=9 <;> simp[h1,h2,h3]
theorem Equal_spec{fu:Nat}{a b:List Int}(hl:Short a)(hf:a.length<fu):slices_Equal_int fu a b=some (decide (a=b)):=by
  have h:=SameInts_spec (fu:=fu) (a:=a) (b:=b) hl hf
  exact h
def manyV(l:List Int)(n:Nat):Prop:=l.length=0∨l.length=n
instance (l:List Int) (n:Nat):Decidable (manyV l n):=by unfold manyV;infer_instance
structure AttrOK (s:T_Setting):Prop where
  g0:1<=s.fGroup
  g1:s.fGroup<=4096
  ker:manyV s.fKernel 2
  str:manyV s.fStrides 2
  dil:manyV s.fDilations 2
  pad:manyV s.fPads 4
def Fits(x y:List Int)(k:Nat):Prop:=x.length=y.length/\ ∀ i,i<x.length->i≠k->gI y i<=gI x i
def outV(k:Int)(d:List Int):T_Val:=⟨k,d,false,⟨0,[],[],[],[]⟩⟩
section
variable {fu:Nat} {a:Int} {v w u:T_Val}
theorem picked_spec{op:Int}{l:List T_Val}{x y d:List Int}{k:Nat}(h0:infer_ask_dims fu ⟨op,sA a,l,1⟩ 0=some x)(h1:infer_ask_dims fu ⟨op,sA a,l,1⟩ 1=some y)(hx:x.length≤8)(hk:axisV a x.length=some (k:Int))(hf:20<fu):
    (Fits x y k/\infer_ask_picked fu ⟨op,sA a,l,1⟩ d=some ([d],0))∨(¬ Fits x y k/\infer_ask_picked fu ⟨op,sA a,l,1⟩ d=some ([],3)):=by
  unfold infer_ask_picked
  rw[h0,ob_some,h1,ob_some]
  by_cases hl:x.length=y.length
  · rw [if_pos (by omega)]
    have hax:infer_ask_axis fu ⟨op,sA a,l,1⟩=some (k:Int):=by
      unfold infer_ask_axis infer_ask_rank
      rw[h0,ob_some,ob_some]
      show(shape_Axis fu a (x.length:Int)).bind _=_
      rw[Axis_spec (by omega),hk,ob_some]
    unfold jn infer_ask_picked.W1
    refine cloop_q (body:=λnext s_1=>_) x.length (λi=>(i:Int)) (λi=> ∀ j,j<i->j≠k->gI y j<=gI x j) (λr=>(Fits x y k/\r=some ([d],0))∨(¬ Fits x y k/\r=some ([],3))) ?_ ?_ (λj hj=>by omega) (by omega)
    · intro i hi hp next hn
      show(Fits x y k/\infer_ask_picked.L1 fu _ d x y next (i:Int)=_)∨(¬ Fits x y k/\infer_ask_picked.L1 fu _ d x y next (i:Int)=_)
      unfold infer_ask_picked.L1
      rw[if_pos (by omega),hax,ob_some,wk_succ (by omega)]
      by_cases he:i=k
      · rw[if_pos (by omega)]
        exact hn λj hj hjk=>hp j (by omega) hjk
      · rw [if_neg (by omega),at?_get (by omega),ob_some,at?_get hi,ob_some,← gI_get (l:=y) (by omega),← gI_get (l:=x) hi]
        by_cases hc:gI x i<gI y i
        · rw[if_pos hc]
          exact .inr ⟨λhF=>by have:=hF.2 i hi he;omega,rfl⟩
        · rw[if_neg hc]
          exact hn fun j hj hjk=>by
            by_cases e:j=i
            · rw[e];omega
            · exact hp j (by omega) hjk
    · intro hp next
      show(Fits x y k/\infer_ask_picked.L1 fu _ d x y next ((x.length:Nat):Int)=_)∨_
      unfold infer_ask_picked.L1
      rw[if_neg (by omega)]
      exact .inl ⟨⟨hl,λi hi=>hp i hi⟩,rfl⟩
  · rw[if_neg (by omega)]
    exact .inr ⟨λhF=>hl hF.1,rfl⟩
theorem complete51:infer_ask_complete (fu+3) ⟨51,sA a,[v,w],1⟩=some (!(decide (v.fType=0))&& !(decide (w.fType=0))):=by
  have h:infer_ask_complete (fu+3) ⟨51,sA a,[v,w],1⟩=infer_ask_complete.W1 (fu+3) ⟨51,sA a,[v,w],1⟩ (2,2,1,1) 0:=rfl
  rw[h]
  unfold infer_ask_complete.W1
  rw[cloop_suc,infer_ask_complete.L1,if_pos (by decide)]
  show(some (!(decide (v.fType=0)))).bind _=_
  rw[ob_some]
  by_cases h0:v.fType=0
  · simp[h0]
  · rw[if_pos (by simp[h0]),cloop_suc,show wk .i64 (0+1)=1 from rfl,infer_ask_complete.L1,if_pos (by decide)]
    show(some (!(decide (w.fType=0)))).bind _=_
    rw[ob_some]
    by_cases h1:w.fType=0
    · simp[h0,h1]
    · rw[if_pos (by simp[h1]),cloop_suc,show wk .i64 (1+1)=2 from rfl,infer_ask_complete.L1,if_neg (by decide)]
      simp[h0,h1]
theorem typed51(h0:v.fType≠0)(h1:w.fType≠0): ∃ b,infer_ask_typed (fu+3) ⟨51,sA a,[v,w],1⟩=some b∧(b=true→Known v.fType∧w.fType=7):=by
  have h:infer_ask_typed (fu+3) ⟨51,sA a,[v,w],1⟩=infer_ask_typed.W1 (fu+3) ⟨51,sA a,[v,w],1⟩ ⟨#[97,105]⟩ 0:=rfl
  rw[h]
  unfold infer_ask_typed.W1
  rw[cloop_suc,infer_ask_typed.L1,if_pos (by simp)]
  show ∃ b,(some (!(decide (v.fType=0)))).bind _=some b/\_
  rw[ob_some,if_pos (by simp[h0])]
  show ∃ b,(some v).bind _=some b/\_
  rw[ob_some,width_spec,ob_some]
  by_cases hk:Known v.fType
  · rw [if_neg (by rw[wdt_zero];exact fun hh=>hh hk)]
    show ∃ b,(some (97:Int)).bind _=some b/\_
    rw[ob_some]
    have hf:infer_ask_fits (fu+3) ⟨51,sA a,[v,w],1⟩ 0 97=(tens_Width (fu+3) v.fType).bind λx8=>some (decide (0<x8)):=rfl
    show ∃ b,(infer_ask_fits (fu+3) ⟨51,sA a,[v,w],1⟩ 0 97).bind _=some b/\_
    rw[hf,width_spec,ob_some,ob_some,if_pos (by simpa using wdt_pos.2 hk),cloop_suc,show wk .i64 (0+1)=1 from rfl,infer_ask_typed.L1,if_pos (by simp)]
    show ∃ b,(some (!(decide (w.fType=0)))).bind _=some b/\_
    rw[ob_some,if_pos (by simp[h1])]
    show ∃ b,(some w).bind _=some b/\_
    rw[ob_some,width_spec,ob_some]
    by_cases hw:Known w.fType
    · rw[if_neg (by rw[wdt_zero];exact fun hh=>hh hw)]
      show ∃ b,(some (105:Int)).bind _=some b/\_
      rw[ob_some]
      show ∃ b,(some (decide (w.fType=7))).bind _=some b/\_
      rw[ob_some]
      by_cases h7:w.fType=7
      · rw[if_pos (by simp[h7]),cloop_suc,show wk .i64 (1+1)=2 from rfl,infer_ask_typed.L1,if_neg (by simp)]
        exact⟨true,rfl,λ_=>⟨hk,h7⟩⟩
      · rw[if_neg (by simp[h7])];exact⟨_,rfl,λh=>by cases h⟩
    · rw[if_pos (wdt_zero.2 hw)];exact⟨_,rfl,λh=>by cases h⟩
  · rw[if_pos (wdt_zero.2 hk)];exact⟨_,rfl,λh=>by cases h⟩
theorem attr51{op:Int}{l:List T_Val}(ho:op=51∨op=52)(hd:infer_ask_dims fu ⟨op,sA a,l,1⟩ 0=some v.fDims)(hn:v.fDims.length≤8): ∃ b,infer_ask_attributes fu ⟨op,sA a,l,1⟩=some b∧(b=true ↔ ∃ k,axisV a v.fDims.length=some k):=by
  have h:infer_ask_attributes fu ⟨op,sA a,l,1⟩=(infer_ask_dims fu ⟨op,sA a,l,1⟩ 0).bind fun x=>(shape_Axis fu a (x.length:Int)).bind fun x3=>some (decide (x3.2=0)):=by
    unfold infer_ask_attributes infer_ask_rank infer_ask_attributes.k1
    rw[hd,ob_some,ob_some,ob_some]
    rcases ho with rfl|rfl <;> rfl
  rw[h,hd,ob_some,Axis_spec (by omega)]
  cases hk:axisV a v.fDims.length with
  |none=>exact⟨_,rfl,by simp⟩
  |some k=>exact⟨_,rfl,by simp⟩
theorem wrong51(h0:v.fType≠0)(h1:w.fType≠0)(hg:Good v.fDims)(hgw:Good w.fDims)(hf:20<fu):
    ∃ e,infer_ask_wrong (fu+3) ⟨51,sA a,[v,w],1⟩=some e/\(e=0->Known v.fType/\w.fType=7/\ ∃ k,axisV a v.fDims.length=some k):=by
  have h8:=hg.1
  have h8w:=hgw.1
  have h:infer_ask_wrong (fu+3) ⟨51,sA a,[v,w],1⟩=infer_ask_wrong.W1 (fu+3) ⟨51,sA a,[v,w],1⟩ 0:=rfl
  rw[h]
  unfold infer_ask_wrong.W1
  rw[cloop_suc,infer_ask_wrong.L1,if_pos (by simp)]
  show ∃ e,(some v).bind _=some e/\_
  rw[ob_some,Size_spec (by unfold Short;omega) (by omega),ob_some]
  show ∃ e,(some (!(decide (v.fType=0)))).bind _=some e/\_
  rw[ob_some,if_pos (by simp[h0]),sizeV,if_pos hg,if_pos rfl,cloop_suc,show wk .i64 (0+1)=1 from rfl,infer_ask_wrong.L1,if_pos (by simp)]
  show ∃ e,(some w).bind _=some e/\_
  rw[ob_some,Size_spec (by unfold Short;omega) (by omega),ob_some]
  show ∃ e,(some (!(decide (w.fType=0)))).bind _=some e/\_
  rw[ob_some,if_pos (by simp[h1]),sizeV,if_pos hgw,if_pos rfl,cloop_suc,show wk .i64 (1+1)=2 from rfl,infer_ask_wrong.L1,if_neg (by simp)]
  have e:infer_ask_wrong.k1 (fu+3) ⟨51,sA a,[v,w],1⟩=(infer_ask_typed (fu+3) ⟨51,sA a,[v,w],1⟩).bind λx2=>if x2=true then((infer_ask_attributes (fu+3) ⟨51,sA a,[v,w],1⟩).bind λx3=>if x3=true then(some 0)else some 14)else some 5:=rfl
  rw[e]
  obtain⟨b,hb,hB⟩:=typed51 (fu:=fu) (a:=a) h0 h1
  rw[hb,ob_some]
  by_cases hb1:b=true
  · rw[if_pos hb1]
    obtain⟨c,hc,hC⟩:=attr51 (fu:=fu+3) (a:=a) (v:=v) (l:=[v,w]) (.inl rfl) rfl h8
    rw[hc,ob_some]
    by_cases hc1:c=true
    · rw[if_pos hc1]
      exact⟨0,rfl,λ_=>⟨(hB hb1).1,(hB hb1).2,hC.1 hc1⟩⟩
    · rw[if_neg hc1];exact⟨14,rfl,λh=>by cases h⟩
  · rw[if_neg hb1];exact⟨5,rfl,λh=>by cases h⟩
theorem axisV_nat{n:Nat}{k:Int}(h:axisV a n=some k): ∃ m:Nat,k=(m:Int)∧m<n:=by
  obtain⟨h0,h1⟩:=axisV_rng h
  exact⟨k.toNat,by omega,by omega⟩
theorem Node_fin{op:Int}{l:List T_Val}{t:Int}{d:List Int}(ho:infer_ask_out (fu+4) ⟨op,sA a,l,1⟩=some t)(hd:Good d)(hf:20<fu):infer_Node.W1 (fu+4) op (sA a) l 1 ([d],0) ([]:List T_Val) 0=some ([outV t d],0):=by
  have h8:=hd.1
  unfold infer_Node.W1
  rw[cloop_suc]
  show infer_Node.L1 (fu+4) op (sA a) l 1 ([d],0) _ [] 0=_
  rw[infer_Node.L1,if_pos (show(0:Int)<((([d],0):List (List Int)×Int).1.length:Int)by simp)]
  show(some d).bind _=_
  rw[ob_some,Size_spec (by unfold Short;omega) (by omega),ob_some,sizeV,if_pos hd,if_pos rfl]
  show(infer_ask_out (fu+4) ⟨op,sA a,l,1⟩).bind _=_
  rw[ho,ob_some,Clone_spec (by omega),ob_some,chk_pos (by simp),cloop_suc]
  rfl
structure GE (a:Int) (v w:T_Val) (k:Nat):Prop where
  v0:v.fType≠0
  kn:Known v.fType
  w7:w.fType=7
  ax:axisV a v.fDims.length=some (k:Int)
  fit:Fits v.fDims w.fDims k
theorem Node51(hg:Good v.fDims)(hgw:Good w.fDims)(hf:20<fu):(∃ k,GE a v w k∧infer_Node (fu+4) 51 (sA a) [v,w] 1=some ([outV v.fType w.fDims],0))∨ ∃ l e,e≠0∧infer_Node (fu+4) 51 (sA a) [v,w] 1=some (l,e):=by
  have h:infer_Node (fu+4) 51 (sA a) [v,w] 1=(infer_ask_complete (fu+4) ⟨51,sA a,[v,w],1⟩).bind fun x5=>if x5=true then((infer_ask_wrong (fu+4) ⟨51,sA a,[v,w],1⟩).bind fun x6=>if x6=0 then
    ((((infer_ask_picked (fu+4) ⟨51,sA a,[v,w],1⟩ w.fDims).bind λx4=>some (x4.1,x4.2)).bind λx3=>some (x3.1,x3.2)).bind λx7=>if x7.2=0 then(infer_Node.W1 (fu+4) 51 (sA a) [v,w] 1 x7 ([]:List T_Val) 0)else some ([],x7.2))else some ([],x6))else some ([],1):=rfl
  rw[h,complete51 (fu:=fu+1),ob_some]
  by_cases hc:(!(decide (v.fType=0))&& !(decide (w.fType=0)))=true
  · rw [if_pos hc]
    have h0:v.fType≠0:=by intro h;simp[h]at hc
    have h1:w.fType≠0:=by intro h;simp[h]at hc
    obtain⟨e,he,hE⟩:=wrong51 (fu:=fu+1) (a:=a) h0 h1 hg hgw (by omega)
    rw[he,ob_some]
    by_cases e0:e=0
    · rw[if_pos e0]
      obtain⟨k1,k2,k',k3⟩:=hE e0
      obtain⟨k,rfl,hkl⟩:=axisV_nat k3
      rcases picked_spec (fu:=fu+4) (op:=51) (l:=[v,w]) (x:=v.fDims) (y:=w.fDims) (d:=w.fDims) rfl rfl hg.1 k3 (by omega)with⟨q1,q2⟩|⟨q1,q2⟩
      · rw[q2,ob_some,ob_some,ob_some,if_pos rfl]
        exact .inl ⟨k,⟨h0,k1,k2,k3,q1⟩,Node_fin rfl hgw hf⟩
      · rw[q2,ob_some,ob_some,ob_some,if_neg (by decide)]
        exact .inr ⟨_,3,by decide,rfl⟩
    · rw[if_neg e0];exact .inr ⟨_,_,e0,rfl⟩
  · rw[if_neg hc];exact .inr ⟨_,1,by decide,rfl⟩
theorem complete52(h0:v.fType≠0)(h1:w.fType≠0)(h2:u.fType≠0):infer_ask_complete (fu+4) ⟨52,sA a,[v,w,u],1⟩=some true:=by
  have h:infer_ask_complete (fu+4) ⟨52,sA a,[v,w,u],1⟩=infer_ask_complete.W1 (fu+4) ⟨52,sA a,[v,w,u],1⟩ (3,3,1,1) 0:=rfl
  rw[h]
  unfold infer_ask_complete.W1
  rw[cloop_suc,infer_ask_complete.L1,if_pos (by decide)]
  show(some (!(decide (v.fType=0)))).bind _=_
  rw[ob_some,if_pos (by simp[h0]),cloop_suc,show wk .i64 (0+1)=1 from rfl,infer_ask_complete.L1,if_pos (by decide)]
  show(some (!(decide (w.fType=0)))).bind _=_
  rw[ob_some,if_pos (by simp[h1]),cloop_suc,show wk .i64 (1+1)=2 from rfl,infer_ask_complete.L1,if_pos (by decide)]
  show(some (!(decide (u.fType=0)))).bind _=_
  rw[ob_some,if_pos (by simp[h2]),cloop_suc,show wk .i64 (2+1)=3 from rfl,infer_ask_complete.L1,if_neg (by decide)]
theorem typed52(hk:Known v.fType)(h7:w.fType=7)(hu:u.fType=v.fType):infer_ask_typed (fu+4) ⟨52,sA a,[v,w,u],1⟩=some true:=by
  have h0:v.fType≠0:=by rcases hk with e|e|e <;> rw[e] <;> decide
  have h:infer_ask_typed (fu+4) ⟨52,sA a,[v,w,u],1⟩=infer_ask_typed.W1 (fu+4) ⟨52,sA a,[v,w,u],1⟩ ⟨#[97,105,61]⟩ 0:=rfl
  rw[h]
  unfold infer_ask_typed.W1
  rw[cloop_suc,infer_ask_typed.L1,if_pos (by simp)]
  show(some (!(decide (v.fType=0)))).bind _=_
  rw[ob_some,if_pos (by simp[h0])]
  show(some v).bind _=_
  rw[ob_some,width_spec,ob_some,if_neg (by rw[wdt_zero];exact λhh=>hh hk)]
  show(some (97:Int)).bind _=_
  rw[ob_some]
  have hf:infer_ask_fits (fu+4) ⟨52,sA a,[v,w,u],1⟩ 0 97=(tens_Width (fu+4) v.fType).bind λx8=>some (decide (0<x8)):=rfl
  show(infer_ask_fits (fu+4) ⟨52,sA a,[v,w,u],1⟩ 0 97).bind _=_
  rw[hf,width_spec,ob_some,ob_some,if_pos (by simpa using wdt_pos.2 hk),cloop_suc,show wk .i64 (0+1)=1 from rfl,infer_ask_typed.L1,if_pos (by simp)]
  show(some (!(decide (w.fType=0)))).bind _=_
  rw[ob_some,if_pos (by simp[h7])]
  show(some w).bind _=_
  rw[ob_some,width_spec,ob_some,if_neg (by rw[h7];decide)]
  show(some (105:Int)).bind _=_
  rw[ob_some]
  show(some (decide (w.fType=7))).bind _=_
  rw[ob_some,if_pos (by simp[h7]),cloop_suc,show wk .i64 (1+1)=2 from rfl,infer_ask_typed.L1,if_pos (by simp)]
  show(some (!(decide (u.fType=0)))).bind _=_
  rw[ob_some,if_pos (by simp[hu,h0])]
  show(some u).bind _=_
  rw[ob_some,width_spec,ob_some,if_neg (by rw[wdt_zero,hu];exact λhh=>hh hk)]
  show(some (61:Int)).bind _=_
  rw[ob_some]
  show((some v).bind λx6=>some (decide (u.fType=x6.fType))).bind _=_
  rw[ob_some,ob_some,if_pos (by simp[hu]),cloop_suc,show wk .i64 (2+1)=3 from rfl,infer_ask_typed.L1,if_neg (by simp)]
  rfl
theorem wrong52{k:Int}(hk:Known v.fType)(h7:w.fType=7)(hu:u.fType=v.fType)(hg:Good v.fDims)(hgw:Good w.fDims)(hgu:Good u.fDims)(ha:axisV a v.fDims.length=some k)(hf:20<fu):infer_ask_wrong (fu+4) ⟨52,sA a,[v,w,u],1⟩=some 0:=by
  have h0:v.fType≠0:=by rcases hk with e|e|e <;> rw[e] <;> decide
  have h8:=hg.1
  have h8w:=hgw.1
  have h8u:=hgu.1
  have h:infer_ask_wrong (fu+4) ⟨52,sA a,[v,w,u],1⟩=infer_ask_wrong.W1 (fu+4) ⟨52,sA a,[v,w,u],1⟩ 0:=rfl
  rw[h]
  unfold infer_ask_wrong.W1
  rw[cloop_suc,infer_ask_wrong.L1,if_pos (by simp)]
  show(some v).bind _=_
  rw[ob_some,Size_spec (by unfold Short;omega) (by omega),ob_some]
  show(some (!(decide (v.fType=0)))).bind _=_
  rw[ob_some,if_pos (by simp[h0]),sizeV,if_pos hg,if_pos rfl,cloop_suc,show wk .i64 (0+1)=1 from rfl,infer_ask_wrong.L1,if_pos (by simp)]
  show(some w).bind _=_
  rw[ob_some,Size_spec (by unfold Short;omega) (by omega),ob_some]
  show(some (!(decide (w.fType=0)))).bind _=_
  rw[ob_some,if_pos (by simp[h7]),sizeV,if_pos hgw,if_pos rfl,cloop_suc,show wk .i64 (1+1)=2 from rfl,infer_ask_wrong.L1,if_pos (by simp)]
  show(some u).bind _=_
  rw[ob_some,Size_spec (by unfold Short;omega) (by omega),ob_some]
  show(some (!(decide (u.fType=0)))).bind _=_
  rw[ob_some,if_pos (by simp[hu,h0]),sizeV,if_pos hgu,if_pos rfl,cloop_suc,show wk .i64 (2+1)=3 from rfl,infer_ask_wrong.L1,if_neg (by simp)]
  have e:infer_ask_wrong.k1 (fu+4) ⟨52,sA a,[v,w,u],1⟩=(infer_ask_typed (fu+4) ⟨52,sA a,[v,w,u],1⟩).bind λx2=>if x2=true then((infer_ask_attributes (fu+4) ⟨52,sA a,[v,w,u],1⟩).bind λx3=>if x3=true then(some 0)else some 14)else some 5:=rfl
  obtain⟨c,hc,hC⟩:=attr51 (fu:=fu+4) (a:=a) (v:=v) (l:=[v,w,u]) (.inr rfl) rfl h8
  rw[e,typed52 hk h7 hu,ob_some,if_pos rfl,hc,ob_some,if_pos (hC.2 ⟨_,ha⟩)]
theorem Node52{k:Nat}(h:GE a v w k)(hu:u.fType=v.fType)(hd:u.fDims=w.fDims)(hg:Good v.fDims)(hgw:Good w.fDims)(hf:20<fu):infer_Node (fu+4) 52 (sA a) [v,w,u] 1=some ([outV v.fType v.fDims],0):=by
  have e:infer_Node (fu+4) 52 (sA a) [v,w,u] 1=(infer_ask_complete (fu+4) ⟨52,sA a,[v,w,u],1⟩).bind fun x5=>if x5=true then((infer_ask_wrong (fu+4) ⟨52,sA a,[v,w,u],1⟩).bind fun x6=>if x6=0 then
    ((((slices_Equal_int (fu+4) w.fDims u.fDims).bind λx7=>if x7=true then((infer_ask_picked (fu+4) ⟨52,sA a,[v,w,u],1⟩ v.fDims).bind λx8=>some (x8.1,x8.2))else(infer_misfit (fu+4)).bind λx9=>some (x9.1,x9.2)).bind λx3=>some (x3.1,x3.2)).bind λx7=>if x7.2=0 then(infer_Node.W1 (fu+4) 52 (sA a) [v,w,u] 1 x7 ([]:List T_Val) 0)else some ([],x7.2))else some ([],x6))else some ([],1):=rfl
  have hE:slices_Equal_int (fu+4) w.fDims u.fDims=some true:=by
    rw[hd,Equal_spec (by have:=hgw.1;unfold Short;omega) (by have:=hgw.1;omega)]
    simp
  rw[e,complete52 h.v0 (by rw[h.w7];decide) (by rw[hu];exact h.v0),ob_some,if_pos rfl,wrong52 h.kn h.w7 hu hg hgw (by rw[hd];exact hgw) h.ax hf,ob_some,if_pos rfl,hE,ob_some,if_pos rfl]
  rcases picked_spec (fu:=fu+4) (op:=52) (l:=[v,w,u]) (x:=v.fDims) (y:=w.fDims) (d:=v.fDims) rfl rfl hg.1 h.ax (by omega)with⟨q1,q2⟩|⟨q1,q2⟩
  · rw[q2,ob_some,ob_some,ob_some,if_pos rfl]
    exact Node_fin rfl hg hf
  · exact absurd h.fit q1
end
end Go.Av
set_option linter.unusedVariables false
set_option linter.unusedSimpArgs false
namespace Go.Av
theorem dot_spec2{fu:Nat}{xs ys:List Int}(hl:xs.length=ys.length)(hx: ∀ x ∈ xs,0≤x)(hy: ∀ y ∈ ys,0≤y)(hb:dotV xs ys≤1000000000)(hn:ys.length≤100)(hf:200<fu):moves_dot fu xs ys=some (dotV xs ys):=by
  unfold moves_dot moves_dot.W1
  refine(cloop_ind (λ(s:Int×Int)=>some (s.1+dotV (xs.drop s.2.toNat) (ys.drop s.2.toNat))) (λs=>0<=s.2/\s.2<=ys.length/\0<=s.1/\s.1+dotV (xs.drop s.2.toNat) (ys.drop s.2.toNat)<=1000000000) (λs=>ys.length - s.2.toNat) ?_ fu _ (by simp;omega) (by simp;omega)).trans (by simp)
  rintro⟨a,i⟩ ⟨h0,h1,h2,h3⟩ next hn2
  simp only at h0 h1 h2 h3 hn2 ⊢
  obtain⟨k,rfl⟩:=Int.eq_ofNat_of_zero_le h0
  unfold moves_dot.L1
  simp only[Int.toNat_natCast]at h3 ⊢
  by_cases hk:k<ys.length
  · have hk2:k<xs.length:=by omega
    rw[List.drop_eq_getElem_cons hk,List.drop_eq_getElem_cons hk2]at h3 ⊢
    simp only[dotV]at h3 ⊢
    have p1:0<=xs[k]*ys[k]:=Int.mul_nonneg (hx _ (List.getElem_mem hk2)) (hy _ (List.getElem_mem hk))
    have p2:0<=dotV (xs.drop (k+1)) (ys.drop (k+1)):=dotV_nonneg (λz hz=>hx z (List.mem_of_mem_drop hz)) (λz hz=>hy z (List.mem_of_mem_drop hz))
    rw[if_pos (by omega),at?_get hk,ob_some,at?_get hk2,ob_some,wk_eq (x:=xs[k]*ys[k]) (by omega) (by omega),wk_eq (x:=a+xs[k]*ys[k]) (by omega) (by omega),wk_succ (by omega)]
    rw[hn2 (_,((k+1:Nat):Int)) ⟨by simp only[];omega,by simp only[];omega,by simp only[];omega,by simp only[Int.toNat_natCast];omega⟩ (by simp;omega)]
    simp only[Int.toNat_natCast]
    congr 1
    omega
  · rw[if_neg (by omega),List.drop_of_length_le (by omega),List.drop_of_length_le (by omega)]
    simp[dotV]
theorem dot_nilr: ∀ {xs:List Int},dotV xs []=0
  |[]=>rfl
  |_::_=>rfl
theorem dot_set: ∀ {xs ys:List Int} {k:Nat} {b:Int},k<xs.length→dotV (xs.set k b) ys=dotV xs ys+(b - gI xs k)*gI ys k
  |[],_,_,_,h=>by simp at h
  | x::xs,[],k,b,_=>by
    rw[dot_nilr,dot_nilr];simp[gI]
  | x::xs,y::ys,0,b,_=>by
    simp only[List.set_cons_zero,dotV]
    have e1:gI (x::xs) 0=x:=by simp[gI]
    have e2:gI (y::ys) 0=y:=by simp[gI]
    rw[e1,e2,Int.sub_mul]
    omega
  | x::xs,y::ys,k+1,b,h=>by
    have ih:=dot_set (xs:=xs) (ys:=ys) (k:=k) (b:=b) (by simpa using h)
    have e1:gI (x::xs) (k+1)=gI xs k:=by simp[gI]
    have e2:gI (y::ys) (k+1)=gI ys k:=by simp[gI]
    simp only[List.set_cons_succ,dotV,e1,e2]
    rw[ih]
    omega
theorem strV_len: ∀ {l:List Int},(strV l).length=l.length
  |[]=>rfl
  |_::l=>by simp[strV,strV_len (l:=l)]
theorem strV_le: ∀ {l:List Int},(∀ x ∈ l,1≤x)→ ∀ y ∈ strV l,y≤prod l
  |[],_,y,hy=>by simp[strV]at hy
  | d::l,h,y,hy=>by
    have h': ∀ x ∈ l,1<=x:=λx hx=>h x (by simp[hx])
    have h1:=prod_pos h'
    have h2:1*prod l<=d*prod l:=Int.mul_le_mul_of_nonneg_right (h d (by simp)) (by omega)
    simp only[strV,List.mem_cons]at hy
    simp only[prod]
    rcases hy with rfl|hy
    · omega
    · have:=strV_le h' y hy;omega
theorem gI_set{l:List Int}{k m:Nat}{b:Int}(hm:m<l.length):gI (l.set k b) m=if m=k then b else gI l m:=by
  rw[gI_get (by simpa using hm),List.getElem_set,gI_get hm]
  by_cases h:k=m
  · rw[if_pos h,if_pos h.symm]
  · rw[if_neg h,if_neg (λe=>h e.symm)]
def plc(x y:List Int)(k:Nat)(j:Nat)(b:Int):Int:=offV x ((idxV y (j:Int)).set k b)
theorem plc_spec{fu:Nat}{x y:List Int}{k j:Nat}{b:Int}(hg:Good x)(hgy:Good y)(hF:Fits x y k)(hkl:k<x.length)(hj:(j:Int)<prod y)(hb0:0≤b)(hb1:b<gI x k)(hf:200<fu):
    (0<=plc x y k j b/\plc x y k j b<prod x)/\ ∃ a c e,moves_dot fu (idxV y (j:Int)) (strdW x)=some a/\at? (idxV y (j:Int)) (k:Int)=some c/\at? (strdW x) (k:Int)=some e/\wk .i64 (a+wk .i64 (wk .i64 (b - c)*e))=plc x y k j b:=by
  have hpy: ∀ z ∈ y,1≤z:=fun z hz=>by
    rcases Int.lt_or_le 0 z with h|h
    · omega
    · have h0:=(hgy.2.1 z hz).1
      have:z=0:=by omega
      subst this
      have:=prod_zero hz
      omega
  have hil:=idxV_length y (j:Int)
  have hok:=okIx_at hil (okIx_idx hpy (by omega) hj)
  have hpx: ∀ z ∈ x,1≤z:=fun z hz=>by
    obtain⟨m,hm,rfl⟩:=List.getElem_of_mem hz
    rw[← gI_get hm]
    by_cases e:m=k
    · subst e;omega
    · have h1:=hF.2 m hm e
      have h2:=hpy _ (List.getElem_mem (show m<y.length by rw[← hF.1];exact hm))
      rw[← gI_get (by rw[← hF.1];exact hm)]at h2
      omega
  have hx4:=hg.2.2
  have hix:(idxV y (j:Int)).length=x.length:=hil.trans hF.1.symm
  have hsl:(strV x).length=x.length:=strV_len
  have hsx:strdW x=strV x:=strdW_pos hpx (by omega)
  have hxn: ∀ z ∈ x,0<=z:=λz hz=>by have:=hpx z hz;omega
  have hokx:okIx x ((idxV y (j:Int)).set k b)=true:=by
    refine okIx_of (by rw[List.length_set];exact hix) λm hm=> ?_
    rw[gI_set (by omega)]
    by_cases e:m=k
    · rw[if_pos e,e];exact⟨hb0,hb1⟩
    · rw[if_neg e]
      have h1:=hok m (by rw[← hF.1];exact hm)
      have h2:=hF.2 m hm e
      exact⟨h1.1,by omega⟩
  have hlt:=offV_lt hxn (by rw[List.length_set];exact hix) hokx
  refine⟨hlt,?_⟩
  have hds:plc x y k j b=dotV (idxV y (j:Int)) (strV x)+(b - gI (idxV y (j:Int)) k)*gI (strV x) k:=by
    unfold plc
    rw[← dot_strV,dot_set (by omega)]
  have hc:=hok k (by rw[← hF.1];exact hkl)
  have hy4:=(hgy.2.1 _ (List.getElem_mem (show k<y.length by rw[← hF.1];exact hkl))).2
  rw[← gI_get (by rw[← hF.1];exact hkl)]at hy4
  have hx4k:=(hg.2.1 _ (List.getElem_mem hkl)).2
  rw[← gI_get hkl]at hx4k
  have he0:0<=gI (strV x) k:=by rw[gI_get (by omega)];exact strV_nonneg hpx _ (List.getElem_mem _)
  have he1:gI (strV x) k≤4096:=by
    rw[gI_get (by omega)]
    have:=strV_le hpx _ (List.getElem_mem (show k<(strV x).length by omega));omega
  have hm1:(gI (idxV y (j:Int)) k - b)*gI (strV x) k≤4096*4096:=by
    rcases Int.lt_or_le (gI (idxV y (j:Int)) k - b) 0 with h|h
    · have:=Int.mul_nonneg (show 0≤ -(gI (idxV y (j:Int)) k - b)by omega) he0
      rw[Int.neg_mul]at this;omega
    · exact Int.mul_le_mul (by omega) he1 he0 (by omega)
  have hm2:(b - gI (idxV y (j:Int)) k)*gI (strV x) k≤4096*4096:=by
    rcases Int.lt_or_le (b - gI (idxV y (j:Int)) k) 0 with h|h
    · have:=Int.mul_nonneg (show 0≤ -(b - gI (idxV y (j:Int)) k)by omega) he0
      rw[Int.neg_mul]at this;omega
    · exact Int.mul_le_mul (by omega) he1 he0 (by omega)
  have hneg:(gI (idxV y (j:Int)) k - b)*gI (strV x) k= -((b - gI (idxV y (j:Int)) k)*gI (strV x) k):=by
    rw[← Int.neg_mul];congr 1;omega
  have hlt':plc x y k j b<prod x:=hlt.2
  have hlt0:0<=plc x y k j b:=hlt.1
  refine⟨dotV (idxV y (j:Int)) (strV x),gI (idxV y (j:Int)) k,gI (strV x) k,?_,?_,?_,?_⟩
  · rw[hsx]
    exact dot_spec2 (by omega) (idxV_nonneg hpy (by omega) hj) (strV_nonneg hpx) (by omega) (by have:=hg.1;omega) hf
  · rw[at?_get (by omega),← gI_get (by omega)]
  · rw[hsx,at?_get (by omega),← gI_get (by omega)]
  · rw[wk_eq (x:=b - gI (idxV y (j:Int)) k) (by omega) (by omega),wk_eq (x:=(b - gI (idxV y (j:Int)) k)*gI (strV x) k) (by omega) (by omega),wk_eq (by omega) (by omega),← hds]
def wv(n e:Int):Int:=if e<0 then wk .i64 (e+n)else e
theorem wrapped_any{fu:Nat}{e n:Int}:(0≤wv n e∧wv n e<n∧moves_wrapped fu e n=some (wv n e))∨(¬ (0≤wv n e∧wv n e<n)∧moves_wrapped fu e n=some (-1)):=by
  have h:moves_wrapped fu e n=moves_wrapped.k1 fu n (wv n e):=by
    unfold moves_wrapped jn wv
    by_cases h:e<0
    · rw[if_pos h,if_pos h]
    · rw[if_neg h,if_neg h]
  rw[h]
  unfold moves_wrapped.k1
  by_cases h1:wv n e<0
  · rw[if_pos h1];exact .inr ⟨by omega,rfl⟩
  · rw[if_neg h1]
    by_cases h2:n<=wv n e
    · rw[if_pos h2];exact .inr ⟨by omega,rfl⟩
    · rw[if_neg h2];exact .inl ⟨by omega,by omega,rfl⟩
theorem named_any{fu:Nat}{op:Int}{s:T_Setting}{L:List T_Tensor}{x y:T_Tensor}{k:Nat}{n:Int}(hy:at? L (1:Int)=some y)(hd:at? x.fDims (k:Int)=some n)(hl:y.fI.length≤1000000)(hf:y.fI.length<fu):
    (moves_move_named fu ⟨op,s,L,x,(k:Int)⟩=some (y.fI.map (wv n),true)/\ ∀ e ∈ y.fI,0<=wv n e/\wv n e<n)∨((¬ ∀ e ∈ y.fI,0<=wv n e/\wv n e<n)/\moves_move_named fu ⟨op,s,L,x,(k:Int)⟩=some ([],false)):=by
  unfold moves_move_named
  dsimp only
  rw[hy,ob_some]
  unfold moves_move_named.W1
  have hz:(([]:List Int),(0:Int))=(λj:Nat=>((y.fI.take j).map (wv n),(j:Int))) 0:=rfl
  rw[hz]
  refine cloop_q (body:=λnext s_1=>_) y.fI.length (λj:Nat=>((y.fI.take j).map (wv n),(j:Int))) (λj=> ∀ e ∈ y.fI.take j,0<=wv n e/\wv n e<n) (λr=>(r=some (y.fI.map (wv n),true)/\ ∀ e ∈ y.fI,0<=wv n e/\wv n e<n)∨((¬ ∀ e ∈ y.fI,0<=wv n e/\wv n e<n)/\r=some ([],false))) ?_ ?_ (λe he=>by simp at he) hf
  · intro j hj hp next hn
    show(moves_move_named.L1 fu ⟨op,s,L,x,(k:Int)⟩ y (λa b=>next (a,b)) ((y.fI.take j).map (wv n)) (j:Int)=_/\_)∨_
    unfold moves_move_named.L1
    dsimp only
    rw[if_pos (by omega),at?_get hj,ob_some,hd,ob_some]
    have hlen:((y.fI.take j).map (wv n)).length=j:=by simp;omega
    rcases wrapped_any (fu:=fu) (e:=y.fI[j]) (n:=n)with⟨h1,h2,h3⟩|⟨hno,h3⟩
    · rw[h3,ob_some,if_neg (by omega),chk_pos (by rw[hlen];omega),wk_succ (by omega)]
      have e1:(y.fI.take j).map (wv n)++[wv n y.fI[j]]=(y.fI.take (j+1)).map (wv n):=by
        rw[List.take_add_one,List.getElem?_eq_getElem hj,List.map_append];rfl
      rw[e1]
      refine hn λe he=> ?_
      rw[List.take_add_one,List.getElem?_eq_getElem hj]at he
      rcases List.mem_append.1 he with he|he
      · exact hp e he
      · have:e=y.fI[j]:=by simpa using he
        rw[this];exact⟨h1,h2⟩
    · rw[h3,ob_some,if_pos (by decide)]
      exact .inr ⟨λhall=>hno (hall _ (List.getElem_mem hj)),rfl⟩
  · intro hp next
    show(moves_move_named.L1 fu ⟨op,s,L,x,(k:Int)⟩ y (λa b=>next (a,b)) ((y.fI.take y.fI.length).map (wv n)) ((y.fI.length:Nat):Int)=_/\_)∨_
    unfold moves_move_named.L1
    rw[if_neg (by omega)]
    rw[List.take_length]at hp ⊢
    exact .inl ⟨rfl,hp⟩
end Go.Av
set_option linter.unusedVariables false
set_option linter.unusedSimpArgs false
namespace Go.Av
theorem canonF_idem{x:Int}:canonF (canonF x)=canonF x:=by
  unfold canonF
  by_cases h:2139095040<x%2147483648
  · rw[if_pos h];rfl
  · rw[if_neg h,if_neg h]
theorem good_nil:Good []:=by
  unfold Good
  exact⟨by decide,λx hx=>absurd hx (by simp),by decide⟩
theorem valOf_type{t:T_Tensor}:(valOf t).fType=t.fType:=by
  unfold valOf zeroVal
  split <;> simp_all
theorem valOf_dims{t:T_Tensor}(h:t.fType≠0):(valOf t).fDims=t.fDims:=by
  unfold valOf
  rw[if_neg h]
theorem valOf_good{t:T_Tensor}(h:t.fType=0∨checkV t=0):Good (valOf t).fDims:=by
  by_cases h0:t.fType=0
  · unfold valOf
    rw[if_pos h0]
    exact good_nil
  · rw[valOf_dims h0]
    exact(checkV_zero.1 (h.resolve_left h0)).2.1
def gT(x:T_Tensor)(d at_:List Int):T_Tensor:=if x.fType=1 then⟨x.fType,d,at_.map (pkOf x.fF 0),[],[]⟩else if x.fType=7 then⟨x.fType,d,[],at_.map (pkOf x.fI 0),[]⟩else⟨x.fType,d,[],[],at_.map (pkOf x.fB false)⟩
theorem gT_type{x:T_Tensor}{d l:List Int}:(gT x d l).fType=x.fType:=by
  unfold gT;split
  · rfl
  · split <;> rfl
theorem gT_dims{x:T_Tensor}{d l:List Int}:(gT x d l).fDims=d:=by
  unfold gT;split
  · rfl
  · split <;> rfl
theorem gT_lens{x:T_Tensor}{d l:List Int}(hk:Known x.fType)(hl:(l.length:Int)=prod d):LensOK (gT x d l):=by
  unfold gT LensOK
  rcases hk with t|t|t <;> simp[t,hl]
theorem gT_check{x:T_Tensor}{d l:List Int}(hk:Known x.fType)(hg:Good d)(hl:(l.length:Int)=prod d):checkV (gT x d l)=0:=
  checkV_zero.2 ⟨by rw[gT_type];exact hk,by rw[gT_dims];exact hg,gT_lens hk hl⟩
theorem pick_g{x:T_Tensor}{d l:List Int}(hc:checkV x=0)(hg:Good d)(hl:(l.length:Int)=prod d)(hr: ∀ e ∈ l,0≤e∧e<prod x.fDims):pickV x d l=(gT x d l,0):=by
  obtain⟨hk,hgx,h1,h2,h3⟩:=checkV_zero.1 hc
  have hn:(newV x.fType d).2=0:=by
    unfold newV
    rw[if_pos (show x.fType=1∨x.fType=7∨x.fType=9 from hk),if_pos hg]
    split
    · rfl
    · split <;> rfl
  have hsum:(x.fF.length:Int)+x.fI.length+x.fB.length=prod x.fDims:=by
    rw[h1,h2,h3]
    rcases hk with t|t|t <;> rw[t] <;> simp
  have hb: ¬ l.any (badP (x.fF.length+x.fI.length+x.fB.length))=true:=by
    intro hh
    obtain⟨e,he,he2⟩:=List.any_eq_true.1 hh
    rw[hsum]at he2
    have:=hr e he
    simp only[badP,Bool.or_eq_true,decide_eq_true_eq]at he2
    omega
  unfold pickV
  rw[if_pos hc,if_pos hn,if_pos hl,if_neg hb]
  rfl
structure GS (a:Int) (x y:T_Tensor) (k:Nat):Prop where
  cx:checkV x=0
  cy:checkV y=0
  ge:GE a (valOf x) (valOf y) k
  nm: ∀ e ∈ y.fI,0<=wv (gI x.fDims k) e/\wv (gI x.fDims k) e<gI x.fDims k
def nmG(x y:T_Tensor)(k:Nat):List Int:=y.fI.map (wv (gI x.fDims k))
def atG(x y:T_Tensor)(k:Nat):List Int:=(List.range (prod y.fDims).toNat).map λj=>plc x.fDims y.fDims k j (gI (nmG x y k) j)
section
variable {f:Nat} {a:Int} {x y:T_Tensor} {k:Nat}
theorem GS.x0(h:GS a x y k):x.fType≠0:=by have:=h.ge.v0;rwa[valOf_type]at this
theorem GS.y7(h:GS a x y k):y.fType=7:=by have:=h.ge.w7;rwa[valOf_type]at this
theorem GS.fit(h:GS a x y k):Fits x.fDims y.fDims k:=by
  have:=h.ge.fit
  rwa[valOf_dims h.x0,valOf_dims (by rw[h.y7];decide)]at this
theorem GS.ax(h:GS a x y k):axisV a x.fDims.length=some (k:Int):=by have:=h.ge.ax;rwa[valOf_dims h.x0]at this
theorem GS.kl(h:GS a x y k):k<x.fDims.length:=by have:=axisV_rng h.ax;omega
theorem GS.gx(h:GS a x y k):Good x.fDims:=(checkV_zero.1 h.cx).2.1
theorem GS.gy(h:GS a x y k):Good y.fDims:=(checkV_zero.1 h.cy).2.1
theorem GS.yl(h:GS a x y k):(y.fI.length:Int)=prod y.fDims:=by
  have:=(checkV_zero.1 h.cy).2.2.2.1
  rwa[if_pos h.y7]at this
theorem GS.nj(h:GS a x y k){j:Nat}(hj:j<(prod y.fDims).toNat):0≤gI (nmG x y k) j∧gI (nmG x y k) j<gI x.fDims k:=by
  have hl:=h.yl
  rw[gI_get (by simp[nmG];omega)]
  simp only[nmG,List.getElem_map]
  exact h.nm _ (List.getElem_mem _)
theorem atG_len:(atG x y k).length=(prod y.fDims).toNat:=by simp[atG]
theorem atG_rng(h:GS a x y k): ∀ e ∈ atG x y k,0≤e∧e<prod x.fDims:=by
  intro e he
  obtain⟨j,hj,rfl⟩:=List.mem_map.1 he
  have hj:=List.mem_range.1 hj
  have hn:=h.nj hj
  exact(plc_spec (fu:=1000) h.gx h.gy h.fit h.kl (by omega) hn.1 hn.2 (by omega)).1
theorem along_g(h:GS a x y k){op:Int}{s:T_Setting}{L:List T_Tensor}(hL:at? L (1:Int)=some (canonT y))(hf:5000<f):moves_move_along f ⟨op,s,L,canonT x,(k:Int)⟩ (nmG x y k)=some (atG x y k):=by
  have hp:=prod_nonneg h.gy.2.1
  refine along_spec (y:=canonT y) hL h.gy (show prod y.fDims=(((prod y.fDims).toNat:Nat):Int)by omega) hf (strides_m h.gx (by omega)) λj hj=> ?_
  have hn:=h.nj hj
  obtain⟨p,q1,c,e,h1,h2,h3,h4⟩:=plc_spec (fu:=f) h.gx h.gy h.fit h.kl (show(j:Int)<prod y.fDims by omega) hn.1 hn.2 (by omega)
  have hl:=h.yl
  have hnl:(nmG x y k).length=y.fI.length:=by simp[nmG]
  exact⟨q1,gI (nmG x y k) j,c,e,h1,by rw[at?_get (by omega),← gI_get (by omega)],h2,h3,h4⟩
theorem axis_g(h:axisV a x.fDims.length=some (k:Int))(h8:x.fDims.length≤8):shape_Axis f (sA a).fAxis (x.fDims.length:Int)=some ((k:Int),0):=by
  show shape_Axis f a _=_
  rw[Axis_spec (by omega),h]
theorem len_ok{t:T_Tensor}(hc:checkV t=0):t.fDims.length<=8/\t.fF.length<=4096/\t.fI.length<=4096/\t.fB.length<=4096:=len_small hc
theorem k1_51(hT:Tens (f+4) [x,y])(hx:x.fType=0∨checkV x=0)(hy:y.fType=0∨checkV y=0)(hf:20000<f):
    (∃ e,e≠0/\moves_Do.k1 (f+4) (sA a) 1 x y x.fType y.fType x.fDims (canonT x).fF x.fI x.fB y.fDims (canonT y).fF y.fI y.fB=some ([],e))∨
    ∃ k,GS a x y k/\moves_Do.k1 (f+4) (sA a) 1 x y x.fType y.fType x.fDims (canonT x).fF x.fI x.fB y.fDims (canonT y).fF y.fI y.fB=some ([gT (canonT x) y.fDims (atG x y k)],0):=by
  unfold moves_Do.k1;try unfold jn
  rw[Vals_all hT,ob_some]
  simp only[List.map_cons,List.map_nil]
  have hn:=Node51 (fu:=f) (a:=a) (v:=valOf x) (w:=valOf y) (valOf_good hx) (valOf_good hy) (by omega)
  rcases hn with⟨k,hge,hN⟩|⟨l,e,he,hN⟩
  · have x0:x.fType≠0:=by have:=hge.v0;rwa[valOf_type]at this
    have y7:y.fType=7:=by have:=hge.w7;rwa[valOf_type]at this
    have cx:=hx.resolve_left x0
    have cy:=hy.resolve_left (by rw[y7];decide)
    obtain⟨kx,gx,lx⟩:=checkV_zero.1 cx
    obtain⟨ky,gy,ly⟩:=checkV_zero.1 cy
    have ax:axisV a x.fDims.length=some (k:Int):=by have:=hge.ax;rwa[valOf_dims x0]at this
    have kl:k<x.fDims.length:=by have:=axisV_rng ax;omega
    have sy:=len_ok cy
    have sx:=len_ok cx
    rw[show infer_Node (f+4) 51 (T_Setting.mk (sA a).fAxis (sA a).fAxes (sA a).fHasAxes (sA a).fKeep (sA a).fNoop (sA a).fLast (sA a).fZero (sA a).fPerm (sA a).fHasPerm (sA a).fAlpha (sA a).fBeta (sA a).fEpsilon (sA a).fLow (sA a).fHigh (sA a).fFmod (sA a).fTo 0 (sA a).fTransA (sA a).fTransB (sA a).fGroup (sA a).fKernel (sA a).fStrides (sA a).fPads (sA a).fDilations (sA a).fAuto (sA a).fCeil (sA a).fCount (sA a).fBlock (sA a).fStart (sA a).fEnd (sA a).fHasEnd (sA a).fValue) [valOf x,valOf y] 1=_ from hN,ob_some,if_pos rfl,axis_g ax gx.1,ob_some]
    dsimp only
    rcases named_any (fu:=f+4) (op:=51) (s:=sA a) (L:=[canonT x,canonT y]) (x:=canonT x) (y:=canonT y) (k:=k) (n:=gI x.fDims k) rfl (by show at? x.fDims _=_;rw[at?_get kl,← gI_get kl]) (by show y.fI.length<=_;omega) (by show y.fI.length<_;omega)with⟨h1,h2⟩|⟨hno,h1⟩
    · have hG:GS a x y k:=⟨cx,cy,hge,h2⟩
      refine .inr ⟨k,hG,?_⟩
      show((moves_move_named (f+4) ⟨51,sA a,[canonT x,canonT y],canonT x,(k:Int)⟩).bind _)=_
      rw[h1,ob_some,if_pos rfl]
      unfold moves_Do.k2
      show(some (outV (valOf x).fType (valOf y).fDims)).bind _=_
      have hp:=prod_nonneg gy.2.1
      have hal:=atG_len (x:=x) (y:=y) (k:=k)
      rw[ob_some]
      show((moves_move_along (f+4) ⟨51,sA a,[canonT x,canonT y],canonT x,(k:Int)⟩ (nmG x y k)).bind _)=_
      rw[along_g hG rfl (by omega),ob_some]
      have hP:=Pick_spec (fu:=f+4) (t:=canonT x) (d:=y.fDims) (l:=atG x y k) (canonT_small (hT.2.2 x (by simp)).1) (canonT_fuel (hT.2.2 x (by simp)).2) (by unfold Short;omega) (by omega) (by unfold Short;rw[hal];have:=gy.2.2;omega) (by rw[hal];have:=gy.2.2;omega)
      rw[pick_g (x:=canonT x) (d:=y.fDims) (l:=atG x y k) (canonT_check.trans cx) gy (by rw[hal];omega) (atG_rng hG)]at hP
      show((tens_Pick (f+4) (canonT x) (valOf y).fDims (atG x y k)).bind _)=_
      rw[valOf_dims (by rw[y7];decide),hP,ob_some]
    · refine .inl ⟨11,by decide,?_⟩
      show((moves_move_named (f+4) ⟨51,sA a,[canonT x,canonT y],canonT x,(k:Int)⟩).bind _)=_
      rw[h1,ob_some,if_neg (by decide)]
  · refine .inl ⟨e,he,?_⟩
    rw[show infer_Node (f+4) 51 (T_Setting.mk (sA a).fAxis (sA a).fAxes (sA a).fHasAxes (sA a).fKeep (sA a).fNoop (sA a).fLast (sA a).fZero (sA a).fPerm (sA a).fHasPerm (sA a).fAlpha (sA a).fBeta (sA a).fEpsilon (sA a).fLow (sA a).fHigh (sA a).fFmod (sA a).fTo 0 (sA a).fTransA (sA a).fTransB (sA a).fGroup (sA a).fKernel (sA a).fStrides (sA a).fPads (sA a).fDilations (sA a).fAuto (sA a).fCeil (sA a).fCount (sA a).fBlock (sA a).fStart (sA a).fEnd (sA a).fHasEnd (sA a).fValue) [valOf x,valOf y] 1=_ from hN,ob_some,if_neg he]
end
end Go.Av
set_option linter.unusedVariables false
set_option linter.unusedSimpArgs false
namespace Go.Av
section
variable {f:Nat} {a:Int} {x y:T_Tensor} {k:Nat}
theorem Do51(tx:Ten x)(ty:Ten y)(fx:Fuel (f+4) x)(fy:Fuel (f+4) y)(hf:20000<f):
    (∃ e,e≠0/\moves_Do (f+4) 51 (sA a) [x,y] 1=some ([],e))∨ ∃ k,GS a x y k/\moves_Do (f+4) 51 (sA a) [x,y] 1=some ([gT (canonT x) y.fDims (atG x y k)],0):=by
  have hT:Tens (f+4) [x,y]:=⟨by simp,by show _<f+4;simp only[List.length_cons,List.length_nil];omega,fun t ht=>by
    rcases List.mem_cons.1 ht with rfl|ht
    · exact⟨tx,fx⟩
    · rcases List.mem_cons.1 ht with rfl|ht
      · exact⟨ty,fy⟩
      · cases ht⟩
  have e:moves_Do (f+4) 51 (sA a) [x,y] 1=(some true).bind fun b=>if b=true then(if x.fType=0 then((tens_Canon (f+4) x).bind fun p=>if y.fType=0 then((tens_Canon (f+4) y).bind fun q=>moves_Do.k1 (f+4) (sA a) 1 x y p.fType q.fType p.fDims p.fF p.fI p.fB q.fDims q.fF q.fI q.fB)else(tens_Check (f+4) y).bind fun c=>if c=0 then((tens_Canon (f+4) y).bind fun q=>moves_Do.k1 (f+4) (sA a) 1 x y p.fType q.fType p.fDims p.fF p.fI p.fB q.fDims q.fF q.fI q.fB)else some ([],c))
      else(tens_Check (f+4) x).bind λc=>if c=0 then((tens_Canon (f+4) x).bind λp=>if y.fType=0 then((tens_Canon (f+4) y).bind λq=>moves_Do.k1 (f+4) (sA a) 1 x y p.fType q.fType p.fDims p.fF p.fI p.fB q.fDims q.fF q.fI q.fB)else(tens_Check (f+4) y).bind λc=>if c=0 then((tens_Canon (f+4) y).bind λq=>moves_Do.k1 (f+4) (sA a) 1 x y p.fType q.fType p.fDims p.fF p.fI p.fB q.fDims q.fF q.fI q.fB)else some ([],c))else some ([],c))else some ([],1):=rfl
  rw[e,ob_some,if_pos rfl,Canon_spec tx fx.2.1,Canon_spec ty fy.2.1,Check_spec tx.small fx,Check_spec ty.small fy]
  simp only[ob_some]
  by_cases x0:x.fType=0
  · rw[if_pos x0]
    by_cases y0:y.fType=0
    · rw[if_pos y0];exact k1_51 hT (.inl x0) (.inl y0) hf
    · rw[if_neg y0]
      by_cases cy:checkV y=0
      · rw[if_pos cy];exact k1_51 hT (.inl x0) (.inr cy) hf
      · rw[if_neg cy];exact .inl ⟨_,cy,rfl⟩
  · rw [if_neg x0]
    by_cases cx:checkV x=0
    · rw[if_pos cx]
      by_cases y0:y.fType=0
      · rw[if_pos y0];exact k1_51 hT (.inr cx) (.inl y0) hf
      · rw[if_neg y0]
        by_cases cy:checkV y=0
        · rw[if_pos cy];exact k1_51 hT (.inr cx) (.inr cy) hf
        · rw[if_neg cy];exact .inl ⟨_,cy,rfl⟩
    · rw[if_neg cx];exact .inl ⟨_,cx,rfl⟩
theorem cF_word(tx:Ten x): ∀ v ∈ (canonT x).fF,(0≤v∧v<4294967296)∧canonF v=v:=by
  intro v hv
  obtain⟨w,hw,rfl⟩:=List.mem_map.1 (show v ∈ x.fF.map canonF from hv)
  refine⟨?_,canonF_idem⟩
  unfold canonF
  split
  · exact⟨by decide,by decide⟩
  · exact tx.2.2.2.2 w hw
theorem gat_facts(tx:Ten x)(h:GS a x y k):Ten (gT (canonT x) y.fDims (atG x y k))∧canonT (gT (canonT x) y.fDims (atG x y k))=gT (canonT x) y.fDims (atG x y k)∧checkV (gT (canonT x) y.fDims (atG x y k))=0∧
    (gT (canonT x) y.fDims (atG x y k)).fF.length<=4096/\(gT (canonT x) y.fDims (atG x y k)).fI.length<=4096/\(gT (canonT x) y.fDims (atG x y k)).fB.length<=4096:=by
  have hp:=prod_nonneg h.gy.2.1
  have hq:=h.gy.2.2
  have h8:=h.gy.1
  have hal:=atG_len (x:=x) (y:=y) (k:=k)
  have kx:Known (canonT x).fType:=(checkV_zero.1 h.cx).1
  have lx:=(checkV_zero.1 h.cx).2.2
  have hc:checkV (gT (canonT x) y.fDims (atG x y k))=0:=gT_check kx h.gy (by rw[hal];omega)
  have hw: ∀ v ∈ (gT (canonT x) y.fDims (atG x y k)).fF,(0≤v∧v<4294967296)∧canonF v=v:=by
    intro v hv
    unfold gT at hv
    split at hv
    · rename_i t1
      obtain⟨e,he,rfl⟩:=List.mem_map.1 hv
      have hr:=atG_rng h e he
      have l1:(canonT x).fF.length=x.fF.length:=by simp[canonT]
      have l2:=lx.1
      rw[if_pos (show x.fType=1 from t1)]at l2
      rw[pk_get hr.1 (by omega)]
      exact cF_word tx _ (List.getElem_mem _)
    · split at hv <;> cases hv
  obtain⟨q1,q2,q3,q4⟩:=len_small hc
  refine⟨⟨by omega,by omega,by omega,by omega,λv hv=>(hw v hv).1⟩,?_,hc,q2,q3,q4⟩
  generalize gT (canonT x) y.fDims (atG x y k)=z at hw
  obtain⟨t,d,F,I,B⟩:=z
  show(⟨t,d,F.map canonF,I,B⟩:T_Tensor)=⟨t,d,F,I,B⟩
  have:F.map canonF=F:=by
    conv=>rhs;rw[← List.map_id F]
    exact List.map_congr_left λv hv=>(hw v hv).2
  rw[this]
theorem set_pk{α:Type}{l:List α}{d:α}{e:Int}(h0:0≤e)(h1:e<l.length):l.set e.toNat (pkOf l d e)=l:=by
  rw[pk_get h0 h1,List.set_getElem_self]
theorem scat_loop{t:Int}{d:List Int}{F I:List Int}{B:List Bool}{at_:List Int}{zF zI:List Int}{zB:List Bool}(hk:t=1∨t=7∨t=9)(hn:at_.length≤4096)(hf:5000<f)
    (hF:t=1->zF=at_.map (pkOf F 0)/\ ∀ e ∈ at_,0<=e/\e<F.length) (hI:t=7->zI=at_.map (pkOf I 0)/\ ∀ e ∈ at_,0<=e/\e<I.length) (hB:t=9->zB=at_.map (pkOf B false)/\ ∀ e ∈ at_,0<=e/\e<B.length):
    moves_Do.W1 f t d F I B zF zI zB at_ F I B 0=some ([⟨t,d,F,I,B⟩],0):=by
  unfold moves_Do.W1
  refine cloop_to at_.length (λj:Nat=>(F,I,B,(j:Int))) _ ?_ ?_ (by omega)
  · intro j hj next hn2
    show moves_Do.L1 f t d F I B zF zI zB at_ (λp q r s=>next (p,q,r,s)) F I B (j:Int)=_
    unfold moves_Do.L1
    have hm:=List.getElem_mem hj
    rw[chk_pos rfl,chk_pos rfl,chk_pos rfl,if_pos (by omega),at?_get hj,ob_some,wk_succ (by omega)]
    rcases hk with rfl|rfl|rfl
    · obtain⟨e1,e2⟩:=hF rfl
      obtain⟨r0,r1⟩:=e2 _ hm
      rw[if_neg (by decide),if_neg (by decide),e1,at?_get (by simpa using hj),ob_some,chk_pos ⟨r0,r1⟩,List.getElem_map,set_pk r0 r1]
      exact hn2
    · obtain⟨e1,e2⟩:=hI rfl
      obtain⟨r0,r1⟩:=e2 _ hm
      rw[if_neg (by decide),if_pos rfl,e1,at?_get (by simpa using hj),ob_some,chk_pos ⟨r0,r1⟩,List.getElem_map,set_pk r0 r1]
      exact hn2
    · obtain⟨e1,e2⟩:=hB rfl
      obtain⟨r0,r1⟩:=e2 _ hm
      rw[if_pos rfl,e1,at?_get (by simpa using hj),ob_some,chk_pos ⟨r0,r1⟩,List.getElem_map,set_pk r0 r1]
      exact hn2
  · intro next
    show moves_Do.L1 f t d F I B zF zI zB at_ _ F I B ((at_.length:Nat):Int)=_
    unfold moves_Do.L1
    rw[chk_pos rfl,chk_pos rfl,chk_pos rfl,if_neg (by omega)]
theorem Do52(tx:Ten x)(ty:Ten y)(fx:Fuel (f+4) x)(fy:Fuel (f+4) y)(h:GS a x y k)(hf:20000<f):moves_Do (f+4) 52 (sA a) [x,y,gT (canonT x) y.fDims (atG x y k)] 1=some ([canonT x],0):=by
  obtain⟨tz,cz,hz,z1,z2,z3⟩:=gat_facts tx h
  have zd:(gT (canonT x) y.fDims (atG x y k)).fDims=y.fDims:=gT_dims
  have zt:(gT (canonT x) y.fDims (atG x y k)).fType=x.fType:=gT_type
  have h8:=h.gy.1
  have hq:=h.gy.2.2
  have hp:=prod_nonneg h.gy.2.1
  have hal:=atG_len (x:=x) (y:=y) (k:=k)
  have fz:Fuel (f+4) (gT (canonT x) y.fDims (atG x y k)):=⟨by rw[zd];omega,by omega,by omega,by omega⟩
  have kx:Known x.fType:=(checkV_zero.1 h.cx).1
  have lx:=(checkV_zero.1 h.cx).2.2
  have sy:=len_small h.cy
  have hzF:x.fType=1->(gT (canonT x) y.fDims (atG x y k)).fF=(atG x y k).map (pkOf (canonT x).fF 0):=λt=>by unfold gT;rw[if_pos (show(canonT x).fType=1 from t)]
  have hzI:x.fType=7->(gT (canonT x) y.fDims (atG x y k)).fI=(atG x y k).map (pkOf x.fI 0):=λt=>by unfold gT;rw[if_neg (show ¬ (canonT x).fType=1 from by show ¬ x.fType=1;rw[t];decide),if_pos (show(canonT x).fType=7 from t)];rfl
  have hzB:x.fType=9->(gT (canonT x) y.fDims (atG x y k)).fB=(atG x y k).map (pkOf x.fB false):=λt=>by unfold gT;rw[if_neg (show ¬ (canonT x).fType=1 from by show ¬ x.fType=1;rw[t];decide),if_neg (show ¬ (canonT x).fType=7 from by show ¬ x.fType=7;rw[t];decide)];rfl
  generalize hzz:gT (canonT x) y.fDims (atG x y k)=z at*
  have hT:Tens (f+4) [x,y,z]:=⟨by simp,by show _<f+4;simp only[List.length_cons,List.length_nil];omega,fun t ht=>by
    rcases List.mem_cons.1 ht with rfl|ht
    · exact⟨tx,fx⟩
    · rcases List.mem_cons.1 ht with rfl|ht
      · exact⟨ty,fy⟩
      · rcases List.mem_cons.1 ht with rfl|ht
        · exact⟨tz,fz⟩
        · cases ht⟩
  obtain⟨A,B,C,e⟩: ∃ (A:Option ((List T_Tensor)×Int)) (B:T_Tensor→Option ((List T_Tensor)×Int)) (C:T_Tensor→T_Tensor→Option ((List T_Tensor)×Int)),moves_Do (f+4) 52 (sA a) [x,y,z] 1=(some true).bind fun b=>if b=true then(if x.fType=0 then A else(tens_Check (f+4) x).bind fun c=>if c=0 then((tens_Canon (f+4) x).bind fun p=>if y.fType=0 then B p else(tens_Check (f+4) y).bind fun c=>if c=0 then((tens_Canon (f+4) y).bind fun q=>if z.fType=0 then C p q else(tens_Check (f+4) z).bind fun c=>if c=0 then((tens_Canon (f+4) z).bind fun r=>
      moves_Do.k3 (f+4) (sA a) 1 x y z p.fType q.fType r.fType p.fDims p.fF p.fI p.fB q.fDims q.fF q.fI q.fB r.fDims r.fF r.fI r.fB)else some ([],c))else some ([],c))else some ([],c))else some ([],1):=⟨_,_,_,rfl⟩
  have y0:y.fType≠0:=by rw[h.y7];decide
  rw[e,ob_some,if_pos rfl,if_neg h.x0,Check_spec tx.small fx,ob_some,if_pos h.cx,Canon_spec tx fx.2.1,ob_some,if_neg y0,Check_spec ty.small fy,ob_some,if_pos h.cy,Canon_spec ty fy.2.1,ob_some,if_neg (by rw[zt];exact h.x0),Check_spec tz.small fz,ob_some,if_pos hz,Canon_spec tz fz.2.1,ob_some,cz]
  unfold moves_Do.k3;try unfold jn
  rw[Vals_all hT,ob_some]
  simp only[List.map_cons,List.map_nil]
  have hN:=Node52 (fu:=f) (u:=valOf z) h.ge (by rw[valOf_type,valOf_type,zt]) (by rw[valOf_dims (by rw[zt];exact h.x0),valOf_dims y0,zd]) (valOf_good (.inr h.cx)) (valOf_good (.inr h.cy)) (by omega)
  show((infer_Node (f+4) 52 (sA a) [valOf x,valOf y,valOf z] 1).bind _)=_
  rw[hN,ob_some,if_pos rfl]
  show((shape_Axis (f+4) (sA a).fAxis (x.fDims.length:Int)).bind _)=_
  rw[axis_g h.ax h.gx.1,ob_some]
  dsimp only
  show((moves_move_named (f+4) ⟨52,sA a,[canonT x,canonT y,z],canonT x,(k:Int)⟩).bind _)=_
  have hkl:=h.kl
  rcases named_any (fu:=f+4) (op:=52) (s:=sA a) (L:=[canonT x,canonT y,z]) (x:=canonT x) (y:=canonT y) (k:=k) (n:=gI x.fDims k) rfl (by show at? x.fDims _=_;rw[at?_get hkl,← gI_get hkl]) (by show y.fI.length<=_;omega) (by show y.fI.length<_;omega)with⟨h1,h2⟩|⟨hno,h1⟩
  · rw[h1,ob_some,if_pos rfl]
    unfold moves_Do.k4
    show((some (outV (valOf x).fType (valOf x).fDims)).bind _)=_
    rw[ob_some]
    show((moves_move_along (f+4) ⟨52,sA a,[canonT x,canonT y,z],canonT x,(k:Int)⟩ (nmG x y k)).bind _)=_
    rw[along_g h rfl (by omega),ob_some]
    have hr:=atG_rng h
    refine scat_loop kx (by rw[hal];omega) (by omega) (λt=>⟨hzF t,λe he=> ?_⟩) (λt=>⟨hzI t,λe he=> ?_⟩) (λt=>⟨hzB t,λe he=> ?_⟩)
    · have:=lx.1
      rw[if_pos (show x.fType=1 from t)]at this
      have q:=hr e he
      have l1:(canonT x).fF.length=x.fF.length:=by simp[canonT]
      exact⟨q.1,by omega⟩
    · have:=lx.2.1
      rw[if_pos (show x.fType=7 from t)]at this
      have q:=hr e he
      exact⟨q.1,by show e<(x.fI.length:Int);omega⟩
    · have:=lx.2.2
      rw[if_pos (show x.fType=9 from t)]at this
      have q:=hr e he
      exact⟨q.1,by show e<(x.fB.length:Int);omega⟩
  · exfalso
    exact hno h.nm
end
end Go.Av
