/- MovesScatter holds. Conditions: none. -/
import Derived.Test.YtnpnomlnajgbcaaGreatRows
import Derived.Test.YtnpnomlnajgbcaaGreatQW
import Derived.Test.YtnpnomlnajgbcaaGreatQA
import Derived.Test.YtnpnomlnajgbcaaGreatZ77
set_option linter.unusedVariables false
namespace Go.Proofs.YtnpnomlnajgbcaaGreat
open Go.ChangeShapes Go.WideShapes Go.ChangeAt Go.RowKit Go.Av
theorem own:ownKnob Tryz.prog.godebug=none:=by kernel_rfl
theorem laidOut:laidOutB Tryz.prog=true:=by kernel_rfl
theorem read: ∀ t ∈ Tryz.f8.params.toList,Tryz.prog.readableRec t=true∧t<Tryz.prog.types.size:=by
  have h:(Tryz.f8.params.toList.all λt=>Tryz.prog.readableRec t&&decide (t<Tryz.prog.types.size))=true:=by kernel_rfl
  intro t ht
  have:=List.all_eq_true.1 h t ht
  simpa using this
set_option maxRecDepth 100000 in
theorem lifted(os:Os)(started:os.Started)(H:Type)(enc:TypeId×Value→H):
    ReturnsInHanded {} Tryz.checked os 8 .any (Rows.movesScatterSpec.pre6 enc Tryz.prog Tryz.f8 Rows.movesScatterRow.domain false) (Rows.movesScatterSpec.post enc Tryz.prog Tryz.f8 false true false false):=by
  refine law_lifted (C:=Tryz.checked) started own (by kernel_rfl) Tryz.func8 laidOut read rfl rfl Tryz.underlying4
    (λds hd=>by match ds,hd with|[d0,d1,d2],_=>rfl)
    (ChangeSpec.witness6 (enc:=enc) (C:=Tryz.checked) false ⟨#[],#[.agg #[.int .i64 0,.slice none 0 0,.slice none 0 0,.slice none 0 0,.slice none 0 0],.agg #[.int .i64 0,.slice none 0 0,.slice none 0 0,.slice none 0 0,.slice none 0 0],.int .i64 0],[]⟩ 8 (by kernel_rfl) (by kernel_rfl) (by kernel_rfl) (by kernel_rfl)) ?_
  intro W base args ds p hval hA hlt hsz
  have hA0:DataW.TrodAll enc Tryz.prog W 0 (λ_=>true) true [27,27,3] args.toList ds p:=hA
  have hsz0:(DataW.weightsEach Tryz.prog [27,27,3] ds).all (· <=reachBytes)=true:=hsz
  have hval0: ∀ (j:Nat) t v,(#[27,27,3]:Array TypeId)[j]? =some t->args[j]? =some v->Value.okWide Tryz.prog W .any base t v:=hval
  obtain⟨v0,r0,d0,s0,p0,q0,e0,rfl,rfl,h0,g0⟩:=trodAll_cons hA0
  obtain⟨v1,r1,d1,s1,p1,q1,rfl,rfl,rfl,h1,g1⟩:=trodAll_cons g0
  obtain⟨v2,r2,d2,s2,p2,q2,rfl,rfl,rfl,h2,g2⟩:=trodAll_cons g1
  obtain⟨rfl,rfl,rfl⟩:=trodAll_nil g2
  have ea:args= #[v0,v1,v2]:=by cases args;simp_all
  subst ea
  obtain⟨a0,c0,w0⟩:=arg_agg (by kernel_rfl) is27 (hval0 0 27 v0 rfl rfl) h0 (sized_at hsz0 (j:=0) rfl rfl)
  obtain⟨a1,c1,w1⟩:=arg_agg (by kernel_rfl) is27 (hval0 1 27 v1 rfl rfl) h1 (sized_at hsz0 (j:=1) rfl rfl)
  obtain⟨a2,rfl,rfl,rfl,w2⟩:=open_int Tryz.underlying3 (hval0 2 3 v2 rfl rfl) h2
  obtain⟨fu,hl⟩:=law_8 a0 a1 a2 w0 w1 w2
  exact law_calls (us:=[v0,v1,.int .i64 a2]) (ok8 fu a0 a1 a2 true hl) rfl fun i x u hx hu=>by
    match i with
    |0=>simp at hx hu;subst hx hu;exact c0
    |1=>simp at hx hu;subst hx hu;exact c1
    |2=>simp at hx hu;subst hx hu;exact .v
    |i+3=>simp at hx
theorem movesScatter_holds:Rows.MovesScatterSaid:=
  OpenClaim.holds_of_wide 8 Tryz.f8 rfl rfl rfl rfl rfl rfl rfl ⟨rfl,rfl,rfl,rfl,rfl⟩ rfl rfl rfl rfl rfl (by kernel_rfl) Tryz.func8 (by kernel_rfl)
    (of_decide_eq_true (by kernel_rfl)) (by unfold Func.isWrapper;first|(rw[if_pos (by decide+kernel)];kernel_rfl)|(rw[if_neg (by decide+kernel)];exact⟨rfl,rfl⟩))
    (λos started H enc _=>lifted os started H enc)
#print axioms movesScatter_holds
end Go.Proofs.YtnpnomlnajgbcaaGreat
