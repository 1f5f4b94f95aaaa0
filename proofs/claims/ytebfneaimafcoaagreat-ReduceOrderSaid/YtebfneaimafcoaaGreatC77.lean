/- ReduceOrder: the law over the plain functions. Conditions: those that each names. -/
import Derived.Test.YtebfneaimafcoaaGreatVV
import Derived.Test.YtebfneaimafcoaaGreatQA
set_option linter.unusedVariables false
namespace Go.Av
theorem ten_of{t:T_Tensor}(h:Q_31 t):Ten t:=by
  obtain⟨_,h1,h2,h3,h4,_⟩:=h
  have l1:=h1.1;have l2:=h2.1;have l3:=h3.1;have l4:=h4.1
  refine⟨by omega,by omega,by omega,by omega,λx hx=> ?_⟩
  have:=h2.2 x hx
  simp[Lit.wf,IntKind.min,IntKind.max,IntKind.signed,IntKind.bits]at this
  omega
theorem pair_same{fu:Nat}{o:Int}{a b:T_Tensor}{r:T_Tensor×Int}(h1:reduce_Do fu o setR [a]=some r)(h2:law13_turned fu a=some b)(h3:reduce_Do fu o setR [b]=some r)(hs:Small r.1)(hf:Fuel fu r.1):
    ((reduce_Do fu o setR [a]).bind λx4=>(law13_turned fu a).bind λx5=>(reduce_Do fu o setR [x5]).bind λx6=>if x4.2=x6.2 then((ref05_Same fu x4.1 x6.1).bind λx7=>some x7)else some false)=some true:=by
  rw[h1,ob_some,h2,ob_some,h3,ob_some,if_pos rfl,refSame_spec hs hf,ob_some,sameT_self]
theorem rI_small{fu:Nat}{o:Int}{l:List Int}(hf:5000<fu):Small (rI o l).1∧Fuel fu (rI o l).1:=by
  have a: ∀ x:Int,Small (⟨7,[],[],[x],[]⟩:T_Tensor)/\Fuel fu (⟨7,[],[],[x],[]⟩:T_Tensor):=λx=>⟨⟨by simp,by simp,by simp,by simp⟩,⟨by show 0<fu;omega,by show 0<fu;omega,by show 1<fu;omega,by show 0<fu;omega⟩⟩
  have b:Small noT/\Fuel fu noT:=⟨⟨by simp[noT],by simp[noT],by simp[noT],by simp[noT]⟩,⟨by show 0<fu;omega,by show 0<fu;omega,by show 0<fu;omega,by show 0<fu;omega⟩⟩
  unfold rI
  split
  · split
    · exact b
    · exact a _
  · split
    · split
      · exact b
      · exact a _
    · split
      · exact a _
      · exact a _
theorem rF_small{fu:Nat}{o:Int}{l:List Int}(hf:5000<fu):Small (rF o l).1∧Fuel fu (rF o l).1:=by
  have a: ∀ x:Int,Small (⟨1,[],[x],[],[]⟩:T_Tensor)/\Fuel fu (⟨1,[],[x],[],[]⟩:T_Tensor):=λx=>⟨⟨by simp,by simp,by simp,by simp⟩,⟨by show 0<fu;omega,by show 1<fu;omega,by show 0<fu;omega,by show 0<fu;omega⟩⟩
  have b:Small noT/\Fuel fu noT:=⟨⟨by simp[noT],by simp[noT],by simp[noT],by simp[noT]⟩,⟨by show 0<fu;omega,by show 0<fu;omega,by show 0<fu;omega,by show 0<fu;omega⟩⟩
  unfold rF
  split
  · exact b
  · split
    · exact a _
    · exact a _
section
variable {fu:Nat} {t:T_Tensor}
def flatT(t:T_Tensor):T_Tensor:=⟨t.fType,[wk .i64 ((wk .i64 ((t.fF.length:Int)+(t.fI.length:Int)))+(t.fB.length:Int))],t.fF,t.fI,t.fB⟩
theorem flat_ok(hc:checkV t=0):(t.fType=1∧flatT t=floT t.fF∧t.fF.length≤4096)∨(t.fType=7∧flatT t=rowT t.fI∧t.fI.length≤4096)∨(t.fType=9∧flatT t=booT t.fB∧t.fB.length≤4096):=by
  obtain⟨hk,hg,l1,l2,l3⟩:=checkV_zero.1 hc
  have h4:=hg.2.2
  have nil: ∀ {α:Type} {l:List α},(l.length:Int)=0->l=[]:=λh=>List.length_eq_zero_iff.1 (by omega)
  obtain⟨ty,d,F,I,B⟩:=t
  simp only at*
  rcases hk with rfl|rfl|rfl
  · rw[if_pos rfl]at l1
    have e2:I=[]:=nil (l2.trans (if_neg (by decide)))
    have e3:B=[]:=nil (l3.trans (if_neg (by decide)))
    subst e2 e3
    refine .inl ⟨rfl,?_,by omega⟩
    unfold flatT floT
    simp only[List.length_nil]
    rw[wk_eq (x:=(F.length:Int)+((0:Nat):Int)) (by omega) (by omega),wk_eq (by omega) (by omega)]
    simp
  · rw[if_pos rfl]at l2
    have e1:F=[]:=nil (l1.trans (if_neg (by decide)))
    have e3:B=[]:=nil (l3.trans (if_neg (by decide)))
    subst e1 e3
    refine .inr (.inl ⟨rfl,?_,by omega⟩)
    unfold flatT rowT
    simp only[List.length_nil]
    rw[wk_eq (x:=((0:Nat):Int)+(I.length:Int)) (by omega) (by omega),wk_eq (by omega) (by omega)]
    simp
  · rw[if_pos rfl]at l3
    have e1:F=[]:=nil (l1.trans (if_neg (by decide)))
    have e2:I=[]:=nil (l2.trans (if_neg (by decide)))
    subst e1 e2
    refine .inr (.inr ⟨rfl,?_,by omega⟩)
    unfold flatT booT
    simp only[List.length_nil]
    rw[wk_eq (x:=((0:Nat):Int)+((0:Nat):Int)) (by omega) (by omega),wk_eq (by omega) (by omega)]
    simp
theorem both{o:Int}(ho:OpR o)(hw: ∀ x ∈ t.fF,0≤x∧x<4294967296)(hc:checkV t=0)(h1:t.fType=1→o=67∨o=68)(hf:7000<fu):
    ∃ b r,reduce_Do fu o setR [flatT t]=some r/\law13_turned fu (flatT t)=some b/\reduce_Do fu o setR [b]=some r/\Small r.1/\Fuel fu r.1:=by
  rcases flat_ok hc with⟨h,e,hn⟩|⟨h,e,hn⟩|⟨h,e,hn⟩
  · rw[e]
    have hw2: ∀ x ∈ t.fF.reverse,0<=x/\x<4294967296:=λx hx=>hw x (List.mem_reverse.1 hx)
    have:=rF_small (fu:=fu) (o:=o) (l:=t.fF) (by omega)
    exact⟨_,_,Do_flo (h1 h) hw hn hf,turned_flo hn (by omega),by rw[Do_flo (h1 h) hw2 (by rw[List.length_reverse];exact hn) hf,rF_rev hw],this.1,this.2⟩
  · rw[e]
    have:=rI_small (fu:=fu) (o:=o) (l:=t.fI) (by omega)
    exact⟨_,_,Do_row ho hn hf,turned_row hn (by omega),by rw[Do_row ho (by rw[List.length_reverse];exact hn) hf,rI_rev],this.1,this.2⟩
  · rw[e]
    exact⟨_,_,Do_boo ho hn hf,turned_boo hn (by omega),Do_boo ho (by rw[List.length_reverse];exact hn) hf,⟨by simp[noT],by simp[noT],by simp[noT],by simp[noT]⟩,⟨by show 0<fu;omega,by show 0<fu;omega,by show 0<fu;omega,by show 0<fu;omega⟩⟩
theorem copy_t(ht:Ten t):ref05_Copy fu t=some t:=by
  obtain⟨q1,q2,q3,q4,_⟩:=ht
  unfold ref05_Copy
  rw[chk_pos (by omega),chk_pos (by omega),chk_pos (by omega),chk_pos (by omega)]
theorem k_all(ht:Ten t)(hc:checkV t=0)(hf:7000<fu):law13_ReduceOrder.k1 fu t=some true∧law13_ReduceOrder.k2 fu t=some true∧(t.fType≠1→law13_ReduceOrder.k3 fu t=some true∧law13_ReduceOrder.k4 fu t=some true):=by
  have hw:=ht.2.2.2.2
  have hcp:=copy_t (fu:=fu) ht
  refine⟨?_,?_,λh1=>⟨?_,?_⟩⟩
  · obtain⟨b,r,h1,h2,h3,h4,h5⟩:=both (fu:=fu) (o:=67) (.inl rfl) hw hc (fun _=> .inl rfl) hf
    unfold law13_ReduceOrder.k1
    rw[hcp,ob_some]
    exact pair_same h1 h2 h3 h4 h5
  · obtain⟨b,r,h1,h2,h3,h4,h5⟩:=both (fu:=fu) (o:=68) (.inr (.inl rfl)) hw hc (fun _=> .inr rfl) hf
    unfold law13_ReduceOrder.k2
    rw[hcp,ob_some]
    exact pair_same h1 h2 h3 h4 h5
  · obtain⟨b,r,h1,h2,h3,h4,h5⟩:=both (fu:=fu) (o:=65) (.inr (.inr (.inl rfl))) hw hc (fun h=>absurd h h1) hf
    unfold law13_ReduceOrder.k3
    rw[hcp,ob_some]
    exact pair_same h1 h2 h3 h4 h5
  · obtain⟨b,r,h1,h2,h3,h4,h5⟩:=both (fu:=fu) (o:=69) (.inr (.inr (.inr rfl))) hw hc (fun h=>absurd h h1) hf
    unfold law13_ReduceOrder.k4
    rw[hcp,ob_some]
    exact pair_same h1 h2 h3 h4 h5
end
theorem band3(x:Int):band .i64 x 3=0∨band .i64 x 3=1∨band .i64 x 3=2∨band .i64 x 3=3:=by
  unfold band
  rw[show IntKind.i64.bits=64 from rfl,show BitVec.ofInt 64 3=BitVec.ofNat 64 (2 ^ 2 - 1)by decide,BitVec.toNat_and,BitVec.toNat_ofNat]
  have e:(2 ^ 2 - 1)%2 ^ 64=2 ^ 2 - 1:=by decide
  rw[e,Nat.and_two_pow_sub_one_eq_mod]
  have hlt:(BitVec.ofInt 64 x).toNat%2 ^ 2<4:=Nat.mod_lt _ (by decide)
  generalize (BitVec.ofInt 64 x).toNat%2 ^ 2=m at hlt
  have hw:IntKind.i64.wrap (m:Int)=(m:Int):=wk_eq (x:=(m:Int)) (by omega) (by omega)
  rw[hw]
  omega
theorem law_4(a0:Int)(a1:T_Tensor)(w0:(Lit.int .i64 a0).wf=true)(w1:Q_31 a1): ∃ fu,law13_ReduceOrder fu a0 a1=some true:=by
  refine⟨a1.fDims.length+a1.fF.length+a1.fI.length+a1.fB.length+20000,?_⟩
  generalize hfu:a1.fDims.length+a1.fF.length+a1.fI.length+a1.fB.length+20000=fu
  have ht:=ten_of w1
  have hft:Fuel fu a1:=⟨by omega,by omega,by omega,by omega⟩
  unfold law13_ReduceOrder jn
  rw[refCheck_spec ht.small hft]
  simp only[ob_some]
  by_cases hc:checkV a1=0
  · obtain⟨q1,q2,q3⟩:=k_all (fu:=fu) ht hc (by omega)
    rcases band3 a0 with h|h|h|h
    · rw[h]
      by_cases h1:a1.fType=1
      · simp[hc,h1,q1]
      · simp[hc,h1,q1]
    · rw[h]
      by_cases h1:a1.fType=1
      · simp[hc,h1,q2]
      · simp[hc,h1,q2]
    · rw[h]
      by_cases h1:a1.fType=1
      · simp[hc,h1]
      · simp[hc,h1,(q3 h1).1]
    · rw[h]
      by_cases h1:a1.fType=1
      · simp[hc,h1]
      · simp[hc,h1,(q3 h1).2]
  · rcases band3 a0 with h|h|h|h <;> rw[h] <;> simp[hc]
end Go.Av
