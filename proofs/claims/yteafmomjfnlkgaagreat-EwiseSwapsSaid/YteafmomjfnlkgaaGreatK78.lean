/- EwiseSwaps: the law over the plain functions. Conditions: those that each names. -/
import Derived.Test.YteafmomjfnlkgaaGreatVV
import Derived.Test.YteafmomjfnlkgaaGreatQA
set_option linter.unusedVariables false
namespace Go.Av
theorem ten_of{t:T_Tensor}(h:Q_28 t):Ten t:=by
  obtain⟨_,h1,h2,h3,h4,_⟩:=h
  have l1:=h1.1;have l2:=h2.1;have l3:=h3.1;have l4:=h4.1
  refine⟨by omega,by omega,by omega,by omega,λx hx=> ?_⟩
  have:=h2.2 x hx
  simp[Lit.wf,IntKind.min,IntKind.max,IntKind.signed,IntKind.bits]at this
  omega
theorem band7(x:Int):band .i64 x 7=0∨band .i64 x 7=1∨band .i64 x 7=2∨band .i64 x 7=3∨band .i64 x 7=4∨band .i64 x 7=5∨band .i64 x 7=6∨band .i64 x 7=7:=by
  unfold band
  rw[show IntKind.i64.bits=64 from rfl,show BitVec.ofInt 64 7=BitVec.ofNat 64 (2 ^ 3 - 1)by decide,BitVec.toNat_and,BitVec.toNat_ofNat]
  have e:(2 ^ 3 - 1)%2 ^ 64=2 ^ 3 - 1:=by decide
  rw[e,Nat.and_two_pow_sub_one_eq_mod]
  have hlt:(BitVec.ofInt 64 x).toNat%2 ^ 3<8:=Nat.mod_lt _ (by decide)
  generalize (BitVec.ofInt 64 x).toNat%2 ^ 3=m at hlt
  have hw:IntKind.i64.wrap (m:Int)=(m:Int):=wk_eq (x:=(m:Int)) (by omega) (by omega)
  rw[hw]
  omega
theorem law_5(a0:Int)(a1 a2:T_Tensor)(w0:(Lit.int .i64 a0).wf=true)(w1:Q_28 a1)(w2:Q_28 a2): ∃ fu,law11_EwiseSwaps fu a0 a1 a2=some true:=by
  refine⟨a1.fDims.length+a1.fF.length+a1.fI.length+a1.fB.length+a2.fDims.length+a2.fF.length+a2.fI.length+a2.fB.length+20000,?_⟩
  generalize hfu:a1.fDims.length+a1.fF.length+a1.fI.length+a1.fB.length+a2.fDims.length+a2.fF.length+a2.fI.length+a2.fB.length+20000=fu
  have t1:=ten_of w1
  have t2:=ten_of w2
  have f1:Fuel fu a1:=⟨by omega,by omega,by omega,by omega⟩
  have f2:Fuel fu a2:=⟨by omega,by omega,by omega,by omega⟩
  have ht:Tens fu [a1,a2]:=⟨by simp,by simp;omega,fun t h=>by
    rcases List.mem_cons.1 h with rfl|h
    · exact⟨t1,f1⟩
    · rcases List.mem_cons.1 h with rfl|h
      · exact⟨t2,f2⟩
      · cases h⟩
  have ht2:Tens fu [a2,a1]:=⟨by simp,by simp;omega,fun t h=>by
    rcases List.mem_cons.1 h with rfl|h
    · exact⟨t2,f2⟩
    · rcases List.mem_cons.1 h with rfl|h
      · exact⟨t1,f1⟩
      · cases h⟩
  have key: ∀ {op:Int} {s:T_Setting},OPS op->_:=λ {op s} h=>swap_one (fu:=fu) (s:=s) h ht ht2 t1 t2 (by omega)
  unfold law11_EwiseSwaps
  rcases band7 a0 with h|h|h|h|h|h|h|h
  · rw[spl_pos h];exact key (by unfold OPS;decide)
  · rw[spl_neg (by rw[h];decide),spl_pos h];exact key (by unfold OPS;decide)
  · rw[spl_neg (by rw[h];decide),spl_neg (by rw[h];decide),spl_pos h];exact key (by unfold OPS;decide)
  · rw[spl_neg (by rw[h];decide),spl_neg (by rw[h];decide),spl_neg (by rw[h];decide),spl_pos h];exact key (by unfold OPS;decide)
  · rw[spl_neg (by rw[h];decide),spl_neg (by rw[h];decide),spl_neg (by rw[h];decide),spl_neg (by rw[h];decide),spl_pos h];exact key (by unfold OPS;decide)
  · rw[spl_neg (by rw[h];decide),spl_neg (by rw[h];decide),spl_neg (by rw[h];decide),spl_neg (by rw[h];decide),spl_neg (by rw[h];decide),spl_pos h];exact key (by unfold OPS;decide)
  · rw[spl_neg (by rw[h];decide),spl_neg (by rw[h];decide),spl_neg (by rw[h];decide),spl_neg (by rw[h];decide),spl_neg (by rw[h];decide),spl_neg (by rw[h];decide),spl_pos h];exact key (by unfold OPS;decide)
  · rw[spl_neg (by rw[h];decide),spl_neg (by rw[h];decide),spl_neg (by rw[h];decide),spl_neg (by rw[h];decide),spl_neg (by rw[h];decide),spl_neg (by rw[h];decide),spl_neg (by rw[h];decide),spl_pos h];exact key (by unfold OPS;decide)
end Go.Av
