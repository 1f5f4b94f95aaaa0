/- EwiseParts: the law over the plain functions. Conditions: those that each names. -/
import Derived.Test.YteafmomjfnlkgaaGreatVV
import Derived.Test.YteafmomjfnlkgaaGreatVV
import Derived.Test.YteafmomjfnlkgaaGreatQA
set_option linter.unusedVariables false
set_option linter.unusedSimpArgs false
namespace Go.Av
theorem anh{fu:Nat}{op lo hi:Int}{s:T_Setting}{ins:List T_Tensor}(hT:CG fu ins)(hf:5000<fu):jr fu op s ins lo hi=some true:=by
  unfold jr jr.k3;try unfold jn
  rcases aJe (op:=op) (s:=s) hT hf with⟨e,he,hD,hP⟩|⟨ty,d,c,kn,gd,hD,hbad,hP⟩
  · rw[hD,ob_some,hP,ob_some,if_neg he,if_pos rfl]
    rw[show dE fu (noT,e).1 ⟨0,[],[],[],[]⟩=some (sameT noT noT)from refSame_spec (a:=noT) (b:=noT) ⟨by decide,by decide,by decide,by decide⟩ ⟨by show 0<fu;omega,by show 0<fu;omega,by show 0<fu;omega,by show 0<fu;omega⟩,ob_some]
    rfl
  · have hp:=kQ gd.2.1
    have hq:=gd.2.2
    have h8:=gd.1
    have len: ∀ a b:Nat,a≤b→(b:Int)≤ah d→(cu ty c a b).1.length≤4096∧(cu ty c a b).2.1.length≤4096∧(cu ty c a b).2.2.length≤4096:=fun a b h1 h2=>by
      unfold cu
      refine⟨?_,?_,?_⟩ <;> dsimp only <;> split <;> first|(rw[adM];omega)|simp
    have hn:((cu ty c 0 (ah d).toNat).1.length:Int)+(cu ty c 0 (ah d).toNat).2.1.length+(cu ty c 0 (ah d).toNat).2.2.length=ah d:=by
      unfold cu
      rcases kn with rfl|rfl|rfl <;> simp[adM] <;> omega
    obtain⟨l1,l2,l3⟩:=len 0 (ah d).toNat (by omega) (by omega)
    have hw:wk .i64 (wk .i64 (((jT ty d (cu ty c 0 (ah d).toNat)).fF.length:Int)+((jT ty d (cu ty c 0 (ah d).toNat)).fI.length:Int))+((jT ty d (cu ty c 0 (ah d).toNat)).fB.length:Int))=ah d:=by
      show wk .i64 (wk .i64 (((cu ty c 0 (ah d).toNat).1.length:Int)+((cu ty c 0 (ah d).toNat).2.1.length:Int))+((cu ty c 0 (ah d).toNat).2.2.length:Int))=ah d
      rw[bP (x:=((cu ty c 0 (ah d).toNat).1.length:Int)+_) (by omega) (by omega),bP (by omega) (by omega)]
      exact hn
    rw[hD,ob_some]
    by_cases hb:lo<0∨hi<lo∨ah d<hi
    · rw[hbad lo hi hb,ob_some,if_pos rfl]
      dsimp only
      rw[hw]
      by_cases q1:lo<0
      · rw[if_pos q1];rfl
      · rw[if_neg q1]
        by_cases q2:hi<lo
        · rw[if_pos q2];rfl
        · rw[if_neg q2,if_pos (by omega)];rfl
    · obtain⟨a,rfl⟩:=Int.eq_ofNat_of_zero_le (show 0≤lo by omega)
      obtain⟨b,rfl⟩:=Int.eq_ofNat_of_zero_le (show 0<=hi by omega)
      have hab:a<=b:=by omega
      have hbn:(b:Int)<=ah d:=by omega
      rw[hP a b hab hbn,ob_some,if_pos rfl]
      dsimp only
      rw[hw,if_neg (by omega),if_neg (by omega),if_neg (by omega)]
      unfold jr.k1;try unfold jn
      dsimp only
      rw[hw,show bu fu op s ins 0 (a:Int)=_ from hP 0 a (by omega) (by omega),ob_some,show bu fu op s ins (b:Int) (ah d)=_ from(congrArg (bu fu op s ins (b:Int)) (show ah d=(((ah d).toNat:Nat):Int)by omega)).trans (hP b (ah d).toNat (by omega) (by omega)),ob_some,if_pos rfl,if_pos rfl,if_pos rfl]
      unfold jr.k2
      obtain⟨a1,a2,a3⟩:=len 0 a (by omega) (by omega)
      obtain⟨b1,b2,b3⟩:=len a b (by omega) (by omega)
      obtain⟨c1,c2,c3⟩:=len b (ah d).toNat (by omega) (by omega)
      have ck: ∀ {x:Int} {k:Option Bool},x<=140737488355328->chk (x<=140737488355328) k=k:=λh=>aU h
      refine(ck (show((cu ty c 0 a).1.length:Int)*4<=_ by omega)).trans ?_
      refine(ck (show((cu ty c 0 a).1.length+(cu ty c a b).1.length:Int)*4<=_ by omega)).trans ?_
      refine(ck (show((cu ty c 0 a).1.length+(cu ty c a b).1.length+(cu ty c b (ah d).toNat).1.length:Int)*4<=_ by omega)).trans ?_
      refine(ck (show((cu ty c 0 a).2.1.length:Int)*8<=_ by omega)).trans ?_
      refine(ck (show((cu ty c 0 a).2.1.length+(cu ty c a b).2.1.length:Int)*8<=_ by omega)).trans ?_
      refine(ck (show((cu ty c 0 a).2.1.length+(cu ty c a b).2.1.length+(cu ty c b (ah d).toNat).2.1.length:Int)*8<=_ by omega)).trans ?_
      refine(ck (show((cu ty c 0 a).2.2.length:Int)*1<=_ by omega)).trans ?_
      refine(ck (show((cu ty c 0 a).2.2.length+(cu ty c a b).2.2.length:Int)*1<=_ by omega)).trans ?_
      refine(ck (show((cu ty c 0 a).2.2.length+(cu ty c a b).2.2.length+(cu ty c b (ah d).toNat).2.2.length:Int)*1<=_ by omega)).trans ?_
      dsimp only[jT]
      simp only[List.nil_append]
      have e1:(cu ty c 0 a).1++(cu ty c a b).1++(cu ty c b (ah d).toNat).1=(cu ty c 0 (ah d).toNat).1:=by
        unfold cu;dsimp only
        split
        · rw[Fz (by omega) hab,Fz (by omega) (by omega)]
        · rfl
      have e2:(cu ty c 0 a).2.1++(cu ty c a b).2.1++(cu ty c b (ah d).toNat).2.1=(cu ty c 0 (ah d).toNat).2.1:=by
        unfold cu;dsimp only
        split
        · rw[Fz (by omega) hab,Fz (by omega) (by omega)]
        · rfl
      have e3:(cu ty c 0 a).2.2++(cu ty c a b).2.2++(cu ty c b (ah d).toNat).2.2=(cu ty c 0 (ah d).toNat).2.2:=by
        unfold cu;dsimp only
        split
        · rw[Fz (by omega) hab,Fz (by omega) (by omega)]
        · rfl
      rw[e1,e2,e3,refSame_spec ⟨by dsimp only;omega,by dsimp only;omega,by dsimp only;omega,by dsimp only;omega⟩ ⟨by dsimp only;omega,by dsimp only;omega,by dsimp only;omega,by dsimp only;omega⟩,ob_some,if_pos (by simp[sameT]),afl (by unfold Short;simp) (by simp;omega),ob_some,bP (by omega) (by omega)]
      congr 1
      rw[decide_eq_true_eq,show(b:Int) - (a:Int)=((b - a:Nat):Int)by omega]
theorem ten_of{t:T_Tensor}(h:Q_28 t):Ten t∧t.fDims.length≤1048576∧t.fF.length≤1048576∧t.fI.length≤1048576∧t.fB.length≤1048576:=by
  obtain⟨_,h1,h2,h3,h4,_⟩:=h
  have l1:=h1.1;have l2:=h2.1;have l3:=h3.1;have l4:=h4.1
  refine⟨⟨by omega,by omega,by omega,by omega,λx hx=> ?_⟩,l1,l2,l3,l4⟩
  have:=h2.2 x hx
  simp[Lit.wf,IntKind.min,IntKind.max,IntKind.signed,IntKind.bits]at this
  omega
theorem aGl{ts:List T_Tensor}{fu:Nat}(hf:1200000<fu)(h:ts.length≤1048576∧ ∀ z0 ∈ ts,(Q_28 z0)):CG fu ts:=by
  have hl:=h.1
  refine⟨hl,by omega,λt ht=> ?_⟩
  obtain⟨a,b1,b2,b3,b4⟩:=ten_of (h.2 t ht)
  exact⟨a,by omega,by omega,by omega,by omega⟩
theorem aCS(a0:Int)(a1:T_Setting)(a2:List T_Tensor)(a3:Int)(a4:Int)(w0:(Lit.int .i64 a0).wf=true)(w1:Q_30 a1)(w2:a2.length≤1048576∧ ∀ z0 ∈ a2,(Q_28 z0))(w3:(Lit.int .i64 a3).wf=true)(w4:(Lit.int .i64 a4).wf=true): ∃ fu,jr fu a0 a1 a2 a3 a4=some true:=
  ⟨1300000,anh (aGl (by omega) w2) (by omega)⟩
end Go.Av
