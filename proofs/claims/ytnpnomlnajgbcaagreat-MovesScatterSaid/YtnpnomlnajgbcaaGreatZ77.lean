/- MovesScatter: the law over the plain functions. Conditions: those that each names. -/
import Derived.Test.YtnpnomlnajgbcaaGreatVV
import Derived.Test.YtnpnomlnajgbcaaGreatQA
set_option linter.unusedVariables false
namespace Go.Av
theorem ten_of{t:T_Tensor}(h:Q_27 t):Ten t:=by
  obtain⟨_,h1,h2,h3,h4,_⟩:=h
  have l1:=h1.1;have l2:=h2.1;have l3:=h3.1;have l4:=h4.1
  refine⟨by omega,by omega,by omega,by omega,λx hx=> ?_⟩
  have:=h2.2 x hx
  simp[Lit.wf,IntKind.min,IntKind.max,IntKind.signed,IntKind.bits]at this
  omega
theorem scatter_law{f:Nat}{a:Int}{x y:T_Tensor}(tx:Ten x)(ty:Ten y)(fx:Fuel (f+4) x)(fy:Fuel (f+4) y)(hf:20000<f):law12_MovesScatter (f+4) x y a=some true:=by
  unfold law12_MovesScatter law12_MovesScatter.k1;try unfold jn
  show((moves_Do (f+4) 51 (sA a) [x,y] 1).bind _)=_
  rcases Do51 (a:=a) tx ty fx fy hf with⟨e,he,hD⟩|⟨k,hG,hD⟩
  · rw[hD,ob_some,if_neg he];rfl
  · rw[hD,ob_some,if_pos rfl,if_pos (by simp)]
    show((some (gT (canonT x) y.fDims (atG x y k))).bind _)=_
    rw[ob_some]
    show((moves_Do (f+4) 52 (sA a) [x,y,gT (canonT x) y.fDims (atG x y k)] 1).bind _)=_
    rw[Do52 tx ty fx fy hG hf,ob_some,if_pos rfl,if_pos (by simp)]
    show((some (canonT x)).bind _)=_
    rw[ob_some,refCanon_spec tx (by have:=fx.2.1;omega),ob_some,refSame_spec (canonT_small tx) (canonT_fuel fx),ob_some]
    simp[sameT]
theorem law_8(a0:T_Tensor)(a1:T_Tensor)(a2:Int)(w0:Q_27 a0)(w1:Q_27 a1)(w2:(Lit.int .i64 a2).wf=true): ∃ fu,law12_MovesScatter fu a0 a1 a2=some true:=by
  refine⟨a0.fDims.length+a0.fF.length+a0.fI.length+a0.fB.length+a1.fDims.length+a1.fF.length+a1.fI.length+a1.fB.length+30000+4,?_⟩
  exact scatter_law (ten_of w0) (ten_of w1) ⟨by omega,by omega,by omega,by omega⟩ ⟨by omega,by omega,by omega,by omega⟩ (by omega)
end Go.Av
