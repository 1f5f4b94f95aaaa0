/- EwiseSpread: the law over the plain functions. Conditions: those that each names. -/
import Derived.Test.YteafmomjfnlkgaaGreatVV
import Derived.Test.YteafmomjfnlkgaaGreatQA
set_option linter.unusedVariables false
namespace Go.Av
theorem ten_of{t:T_Tensor}(h:Q_28 t):Ten t:=by
  obtain⟨_,h1,h2,h3,h4,_⟩:=h
  have l1:=h1.1;have l2:=h2.1;have l3:=h3.1;have l4:=h4.1
  refine⟨by omega,by omega,by omega,by omega,λx hx=> ?_⟩
  have:=h2.2 x hx
  simp[Lit.wf,IntKind.min,IntKind.max,IntKind.signed,IntKind.bits]at this
  omega
theorem law_6(a0:Int)(a1:T_Setting)(a2 a3:T_Tensor)(w0:(Lit.int .i64 a0).wf=true)(w1:Q_30 a1)(w2:Q_28 a2)(w3:Q_28 a3): ∃ fu,law11_EwiseSpread fu a0 a1 a2 a3=some true:=by
  refine⟨a2.fDims.length+a2.fF.length+a2.fI.length+a2.fB.length+a3.fDims.length+a3.fF.length+a3.fI.length+a3.fB.length+30000,?_⟩
  generalize hfu:a2.fDims.length+a2.fF.length+a2.fI.length+a2.fB.length+a3.fDims.length+a3.fF.length+a3.fI.length+a3.fB.length+30000=fu
  have t1:=ten_of w2
  have t2:=ten_of w3
  have f1:Fuel fu a2:=⟨by omega,by omega,by omega,by omega⟩
  have f2:Fuel fu a3:=⟨by omega,by omega,by omega,by omega⟩
  unfold law11_EwiseSpread;try unfold jn
  by_cases h1:a0<23
  · rw[if_pos h1]
  · rw [if_neg h1]
    by_cases h2:41<a0
    · rw[if_pos h2]
    · rw [if_neg h2]
      by_cases h3:a0=26
      · rw[if_pos h3]
      · rw[if_neg h3]
        by_cases h4:a0=27
        · rw[if_pos h4]
        · rw[if_neg h4]
          exact spread_law (by unfold OPS;omega) t1 t2 f1 f2 (by omega)
end Go.Av
