/- ReduceOrder holds. Conditions: none. -/
import Derived.Test.YtebfneaimafcoaaGreatRows
import Derived.Test.YtebfneaimafcoaaGreatQW
import Derived.Test.YtebfneaimafcoaaGreatQA
import Derived.Test.YtebfneaimafcoaaGreatC77
set_option linter.unusedVariables false
namespace Go.Proofs.YtebfneaimafcoaaGreat
open Go.ChangeShapes Go.WideShapes Go.ChangeAt Go.RowKit Go.Av
theorem own:ownKnob Tryz.prog.godebug=none:=by kernel_rfl
theorem laidOut:laidOutB Tryz.prog=true:=by kernel_rfl
theorem read: ∀ t ∈ Tryz.f4.params.toList,Tryz.prog.readableRec t=true∧t<Tryz.prog.types.size:=by
  have h:(Tryz.f4.params.toList.all λt=>Tryz.prog.readableRec t&&decide (t<Tryz.prog.types.size))=true:=by kernel_rfl
  intro t ht
  have:=List.all_eq_true.1 h t ht
  simpa using this
set_option maxRecDepth 100000 in
theorem lifted(os:Os)(started:os.Started)(H:Type)(enc:TypeId×Value→H):
    ReturnsInHanded {} Tryz.checked os 4 .any (Rows.reduceOrderSpec.pre6 enc Tryz.prog Tryz.f4 Rows.reduceOrderRow.domain false) (Rows.reduceOrderSpec.post enc Tryz.prog Tryz.f4 false true false false):=by
  refine law_lifted (C:=Tryz.checked) started own (by kernel_rfl) Tryz.func4 laidOut read rfl rfl Tryz.underlying4
    (λds hd=>by match ds,hd with|[d0,d1],_=>rfl)
    (ChangeSpec.witness6 (enc:=enc) (C:=Tryz.checked) false ⟨#[],#[.int .i64 0,.agg #[.int .i64 0,.slice none 0 0,.slice none 0 0,.slice none 0 0,.slice none 0 0]],[]⟩ 8 (by kernel_rfl) (by kernel_rfl) (by kernel_rfl) (by kernel_rfl)) ?_
  intro W base args ds p hval hA hlt hsz
  have hA0:DataW.TrodAll enc Tryz.prog W 0 (λ_=>true) true [3,31] args.toList ds p:=hA
  have hsz0:(DataW.weightsEach Tryz.prog [3,31] ds).all (· <=reachBytes)=true:=hsz
  have hval0: ∀ (j:Nat) t v,(#[3,31]:Array TypeId)[j]? =some t->args[j]? =some v->Value.okWide Tryz.prog W .any base t v:=hval
  obtain⟨v0,r0,d0,s0,p0,q0,e0,rfl,rfl,h0,g0⟩:=trodAll_cons hA0
  obtain⟨v1,r1,d1,s1,p1,q1,rfl,rfl,rfl,h1,g1⟩:=trodAll_cons g0
  obtain⟨rfl,rfl,rfl⟩:=trodAll_nil g1
  have ea:args= #[v0,v1]:=by cases args;simp_all
  subst ea
  obtain⟨a0,rfl,rfl,rfl,w0⟩:=open_int Tryz.underlying3 (hval0 0 3 v0 rfl rfl) h0
  obtain⟨a1,c1,w1⟩:=arg_agg (by kernel_rfl) is31 (hval0 1 31 v1 rfl rfl) h1 (sized_at hsz0 (j:=1) rfl rfl)
  obtain⟨fu,hl⟩:=law_4 a0 a1 w0 w1
  exact law_calls (us:=[.int .i64 a0,v1]) (ok4 fu a0 a1 true hl) rfl fun i x u hx hu=>by
    match i with
    |0=>simp at hx hu;subst hx hu;exact .v
    |1=>simp at hx hu;subst hx hu;exact c1
    |i+2=>simp at hx
theorem reduceOrder_holds:Rows.ReduceOrderSaid:=
  OpenClaim.holds_of_wide 4 Tryz.f4 rfl rfl rfl rfl rfl rfl rfl ⟨rfl,rfl,rfl,rfl,rfl⟩ rfl rfl rfl rfl rfl (by kernel_rfl) Tryz.func4 (by kernel_rfl)
    (of_decide_eq_true (by kernel_rfl)) (by unfold Func.isWrapper;first|(rw[if_pos (by decide+kernel)];kernel_rfl)|(rw[if_neg (by decide+kernel)];exact⟨rfl,rfl⟩))
    (λos started H enc _=>lifted os started H enc)
#print axioms reduceOrder_holds
end Go.Proofs.YtebfneaimafcoaaGreat
