/- From a contract of a law's function to the given form of its statement; arguments as the interpreter's data. Conditions: those that each names. -/
import Derived.Test.YtiagecndhhinfaaGreatMo
import Derived.ProofKit
import Derived.SizedLaws
set_option linter.unusedVariables false
namespace Go.Av
open Go.ChangeShapes Go.WideShapes Go.ChangeAt Go.RowKit
def qK(W:World):Nat->Prop:=λb=>b<W.heap.size
theorem atp{P:Program}{f:FuncId}{avs:List AV}{us:List Value}{W:World}(h:bH P f avs (.v (.bool true)))(hl:avs.length=us.length)
    (hx: ∀ (i:Nat) x u,avs[i]? =some x->us[i]? =some u->VC W.heap (qK W) x u):
    Calls P f us.toArray W λe W'=>e= .returned (.bool true)/\Below W.heap.size W W':=by
  refine(h.2 W (qK W) us (λb hb=>hb) hl hx).mono λe W' ⟨u,F',bs,he,hg,_,_,_,ht,_⟩=> ?_
  have hu:u= .bool true:=by
    cases ht with
    | base hr=>cases hr with
      |v=>rfl
  subst hu
  exact⟨he,⟨hg.os,hg.tape,hg.output,hg.size,λk hk=>hg.block k hk (by simp)⟩⟩
section
variable {H:Type} {enc:TypeId×Value->H} {P:Program}
theorem adD(hl:laidOutB P=true){W W':World}(hb:Below W.heap.size W W'): ∀ {ts:List TypeId} (hts: ∀ t ∈ ts,P.readableRec t=true∧t<P.types.size) {vs:List Value} {ds:List (DataW H)} {ps:List MemPlace},
    DataW.TrodAll enc P W 0 (λ_=>true) true ts vs ds ps->(∀ x ∈ ps,x.block<W.heap.size)->DataW.TrodAll enc P W' 0 (λb=>decide (b<W.heap.size)) true ts vs ds ps
  | [],_,vs,ds,ps,h,_=>by
    cases vs <;> cases ds <;> first|exact h|exact h.elim
  | t ::ts,hts,vs,ds,ps,h,hlt=>by
    cases vs with
    |nil=>cases ds <;> exact h.elim
    | cons v vs=>
      cases ds with
      |nil=>exact h.elim
      | cons d ds=>
        obtain⟨p,q,h1,h2,rfl⟩:=h
        have ht:=hts t (by simp)
        exact⟨p,q,Below.trod hl ht.1 ht.2 h1 hb (λx hx=>hlt x (by simp[hx])),adD hl hb (λt h=>hts t (by simp[h])) h2 (λx hx=>hlt x (by simp[hx])),rfl⟩
theorem Ya{W:World}{b off len:Nat}{us:List Value}(h0:0<len)(hl:us.length=len)(hcell: ∀ i,i<len→W.cell? ⟨b,off+i,none⟩=us[i]?):Row W.heap b off us∧b<W.heap.size:=by
  have hc0:=hcell 0 h0
  rw[List.getElem?_eq_getElem ae]at hc0
  simp only[World.cell?]at hc0
  cases hb:W.heap[b]? with
  |none=>rw[hb]at hc0;cases hc0
  | some o=>
    refine⟨?_,(Array.getElem?_eq_some_iff.1 hb).1⟩
    cases o with
    | cells cur e fz=>
      refine⟨cur,e,fz,hb,λi u hu=> ?_⟩
      have hi:i<us.length:=(List.getElem?_eq_some_iff.1 hu).1
      have:=hcell i ae
      simp only[World.cell?,hb]at this
      simp at this
      rw[this];exact hu
    |_=>rw[hb]at hc0;cases hc0
end
end Go.Av
