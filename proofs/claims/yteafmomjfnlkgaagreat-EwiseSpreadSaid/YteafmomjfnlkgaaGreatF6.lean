/- EwiseSpread holds. Conditions: none. -/
import Derived.Test.YteafmomjfnlkgaaGreatRows
import Derived.Test.YteafmomjfnlkgaaGreatQW
import Derived.Test.YteafmomjfnlkgaaGreatFJ
import Derived.Test.YteafmomjfnlkgaaGreatQA
import Derived.Test.YteafmomjfnlkgaaGreatK78
set_option linter.unusedVariables false
namespace Go.Proofs.YteafmomjfnlkgaaGreat
open Go.ChangeShapes Go.WideShapes Go.ChangeAt Go.RowKit Go.Av
theorem own:ownKnob Tryz.prog.godebug=none:=by kernel_rfl
theorem laidOut:laidOutB Tryz.prog=true:=by kernel_rfl
theorem read: ∀ t ∈ Tryz.f6.params.toList,Tryz.prog.readableRec t=true∧t<Tryz.prog.types.size:=by
  have h:(Tryz.f6.params.toList.all λt=>Tryz.prog.readableRec t&&decide (t<Tryz.prog.types.size))=true:=by kernel_rfl
  intro t ht
  have:=List.all_eq_true.1 h t ht
  simpa using this
set_option maxRecDepth 100000 in
theorem lifted(os:Os)(started:os.Started)(H:Type)(enc:TypeId×Value→H):
    ReturnsInHanded {} Tryz.checked os 6 .any (Rows.ewiseSpreadSpec.pre6 enc Tryz.prog Tryz.f6 Rows.ewiseSpreadRow.domain false) (Rows.ewiseSpreadSpec.post enc Tryz.prog Tryz.f6 false true false false):=by
  refine law_lifted (C:=Tryz.checked) started own (by kernel_rfl) Tryz.func6 laidOut read rfl rfl Tryz.underlying4
    (λds hd=>by match ds,hd with|[d0,d1,d2,d3],_=>rfl)
    (ChangeSpec.witness6 (enc:=enc) (C:=Tryz.checked) false ⟨#[],#[.int .i64 0,.agg #[.int .i64 0,.slice none 0 0,.bool false,.bool false,.bool false,.bool false,.bool false,.slice none 0 0,.bool false,.int .u32 0,.int .u32 0,.int .u32 0,.bool false,.bool false,.bool false,.int .i64 0,.int .i64 0,.bool false,.bool false,.int .i64 0,.slice none 0 0,.slice none 0 0,.slice none 0 0,.slice none 0 0,.int .i64 0,.bool false,.bool false,.int .i64 0,.int .i64 0,.int .i64 0,.bool false,.int .i64 0,.slice none 0 0,.slice none 0 0,.slice none 0 0,.slice none 0 0],.agg #[.int .i64 0,.slice none 0 0,.slice none 0 0,.slice none 0 0,.slice none 0 0],.agg #[.int .i64 0,.slice none 0 0,.slice none 0 0,.slice none 0 0,.slice none 0 0]],[]⟩ 8 (by kernel_rfl) (by kernel_rfl) (by kernel_rfl) (by kernel_rfl)) ?_
  intro W base args ds p hval hA hlt hsz
  have hA0:DataW.TrodAll enc Tryz.prog W 0 (λ_=>true) true [3,30,28,28] args.toList ds p:=hA
  have hsz0:(DataW.weightsEach Tryz.prog [3,30,28,28] ds).all (· <=reachBytes)=true:=hsz
  have hval0: ∀ (j:Nat) t v,(#[3,30,28,28]:Array TypeId)[j]? =some t->args[j]? =some v->Value.okWide Tryz.prog W .any base t v:=hval
  obtain⟨v0,r0,d0,s0,p0,q0,e0,rfl,rfl,h0,g0⟩:=trodAll_cons hA0
  obtain⟨v1,r1,d1,s1,p1,q1,rfl,rfl,rfl,h1,g1⟩:=trodAll_cons g0
  obtain⟨v2,r2,d2,s2,p2,q2,rfl,rfl,rfl,h2,g2⟩:=trodAll_cons g1
  obtain⟨v3,r3,d3,s3,p3,q3,rfl,rfl,rfl,h3,g3⟩:=trodAll_cons g2
  obtain⟨rfl,rfl,rfl⟩:=trodAll_nil g3
  have ea:args= #[v0,v1,v2,v3]:=by cases args;simp_all
  subst ea
  obtain⟨a0,rfl,rfl,rfl,w0⟩:=open_int Tryz.underlying3 (hval0 0 3 v0 rfl rfl) h0
  obtain⟨a1,c1,w1⟩:=arg_agg (by kernel_rfl) is30 (hval0 1 30 v1 rfl rfl) h1 (sized_at hsz0 (j:=1) rfl rfl)
  obtain⟨a2,c2,w2⟩:=arg_agg (by kernel_rfl) is28 (hval0 2 28 v2 rfl rfl) h2 (sized_at hsz0 (j:=2) rfl rfl)
  obtain⟨a3,c3,w3⟩:=arg_agg (by kernel_rfl) is28 (hval0 3 28 v3 rfl rfl) h3 (sized_at hsz0 (j:=3) rfl rfl)
  obtain⟨fu,hl⟩:=law_6 a0 a1 a2 a3 w0 w1 w2 w3
  exact law_calls (us:=[.int .i64 a0,v1,v2,v3]) (ok6 fu a0 a1 a2 a3 true hl) rfl fun i x u hx hu=>by
    match i with
    |0=>simp at hx hu;subst hx hu;exact .v
    |1=>simp at hx hu;subst hx hu;exact c1
    |2=>simp at hx hu;subst hx hu;exact c2
    |3=>simp at hx hu;subst hx hu;exact c3
    |i+4=>simp at hx
theorem ewiseSpread_holds:Rows.EwiseSpreadSaid:=
  OpenClaim.holds_of_wide 6 Tryz.f6 rfl rfl rfl rfl rfl rfl rfl ⟨rfl,rfl,rfl,rfl,rfl⟩ rfl rfl rfl rfl rfl (by kernel_rfl) Tryz.func6 joined
    (of_decide_eq_true (by kernel_rfl)) (by unfold Func.isWrapper;first|(rw[if_pos (by decide+kernel)];kernel_rfl)|(rw[if_neg (by decide+kernel)];exact⟨rfl,rfl⟩))
    (λos started H enc _=>lifted os started H enc)
#print axioms ewiseSpread_holds
end Go.Proofs.YteafmomjfnlkgaaGreat
