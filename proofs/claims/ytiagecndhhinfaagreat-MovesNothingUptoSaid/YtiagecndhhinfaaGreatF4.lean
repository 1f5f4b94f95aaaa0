/- MovesNothing holds. Conditions: none. -/
import Derived.Test.YtiagecndhhinfaaGreatRows
import Derived.Test.YtiagecndhhinfaaGreatQW
import Derived.Test.YtiagecndhhinfaaGreatFJ
import Derived.Test.YtiagecndhhinfaaGreatQA
import Derived.Test.YtiagecndhhinfaaGreatVC
set_option linter.unusedVariables false
namespace Go.Proofs.YtiagecndhhinfaaGreat
open Go.ChangeShapes Go.WideShapes Go.ChangeAt Go.RowKit Go.Av
theorem own:ownKnob Tryz.prog.godebug=none:=by kernel_rfl
theorem laidOut:laidOutB Tryz.prog=true:=by kernel_rfl
theorem read: ∀ t ∈ Tryz.f4.params.toList,Tryz.prog.readableRec t=true∧t<Tryz.prog.types.size:=by
  have h:(Tryz.f4.params.toList.all λt=>Tryz.prog.readableRec t&&decide (t<Tryz.prog.types.size))=true:=by kernel_rfl
  intro t ht
  have:=List.all_eq_true.1 h t ht
  simpa using this
theorem apr{H:Type}(d:DataW H):1≤Rows.uptoBulk d:=by
  cases d with
  |lit l=>cases l <;> simp[Rows.uptoBulk]
  |_=>simp[Rows.uptoBulk]
noncomputable def bm(H:Type):lN H:=⟨Rows.uptoBulk,Rows.uptoBulkAll,by simp[Rows.uptoBulkAll],λd l=>by simp[Rows.uptoBulkAll],λe s=>by simp[Rows.uptoBulk],λps=>by simp[Rows.uptoBulk],λb=>by simp[Rows.uptoBulk],apr⟩
set_option maxRecDepth 100000 in
theorem lifted(os:Os)(started:os.Started)(H:Type)(enc:TypeId×Value→H)(F:Stop.Interp):
    ReturnsInHanded {} Tryz.checked os 4 .any ((Rows.OpenSpec.upto Rows.movesNothingSpec).pre6 enc Tryz.prog Tryz.f4 Rows.movesNothingUptoRow.domain false) (((Rows.OpenSpec.upto Rows.movesNothingSpec).at F).post enc Tryz.prog Tryz.f4 false true false false):=by
  refine atq (C:=Tryz.checked) (s:=Rows.movesNothingSpec) (so:=Rows.OpenSpec.upto Rows.movesNothingSpec) (kk:=Rows.uptoSmall) started rfl (fun _=>rfl) own (by kernel_rfl) Tryz.func4 laidOut read rfl rfl rfl Tryz.underlying4
    (λds hd=>by match ds,hd with|[d0,d1,d2],_=>rfl)
    (OpenSpec.witness (enc:=enc) (C:=Tryz.checked) (s:=Rows.OpenSpec.upto Rows.movesNothingSpec) (k:=Rows.uptoSmall) rfl false ⟨#[],#[.int .i64 0,.agg #[.int .i64 0,.slice none 0 0,.bool false,.bool false,.bool false,.bool false,.bool false,.slice none 0 0,.bool false,.int .u32 0,.int .u32 0,.int .u32 0,.bool false,.bool false,.bool false,.int .i64 0,.int .i64 0,.bool false,.bool false,.int .i64 0,.slice none 0 0,.slice none 0 0,.slice none 0 0,.slice none 0 0,.int .i64 0,.bool false,.bool false,.int .i64 0,.int .i64 0,.int .i64 0,.bool false,.int .i64 0,.slice none 0 0,.slice none 0 0,.slice none 0 0,.slice none 0 0],.slice none 0 0],[]⟩ 8 (by kernel_rfl) (by kernel_rfl) (by kernel_rfl) (x:=([.lit (.int .i64 0),.agg [.lit (.int .i64 0),.nil,.lit (.bool false),.lit (.bool false),.lit (.bool false),.lit (.bool false),.lit (.bool false),.nil,.lit (.bool false),.lit (.int .u32 0),.lit (.int .u32 0),.lit (.int .u32 0),.lit (.bool false),.lit (.bool false),.lit (.bool false),.lit (.int .i64 0),.lit (.int .i64 0),.lit (.bool false),.lit (.bool false),.lit (.int .i64 0),.nil,.nil,.nil,.nil,.lit (.int .i64 0),.lit (.bool false),.lit (.bool false),.lit (.int .i64 0),.lit (.int .i64 0),.lit (.int .i64 0),.lit (.bool false),.agg [.lit (.int .i64 0),.nil,.nil,.nil,.nil]],.nil],[],[])) (by kernel_rfl) rfl (by kernel_rfl)) ?_
  intro W base args ds p hval hA hlt hk
  have hA0:DataW.TrodAll enc Tryz.prog W 0 (λ_=>true) true [3,30,31] args.toList ds p:=hA
  have hk0:(bm H).ba ds<=1048576:=of_decide_eq_true hk
  have hval0: ∀ (j:Nat) t v,(#[3,30,31]:Array TypeId)[j]? =some t->args[j]? =some v->Value.okWide Tryz.prog W .any base t v:=hval
  obtain⟨v0,r0,d0,s0,p0,q0,e0,rfl,rfl,h0,g0⟩:=trodAll_cons hA0
  obtain⟨v1,r1,d1,s1,p1,q1,rfl,rfl,rfl,h1,g1⟩:=trodAll_cons g0
  obtain⟨v2,r2,d2,s2,p2,q2,rfl,rfl,rfl,h2,g2⟩:=trodAll_cons g1
  obtain⟨rfl,rfl,rfl⟩:=trodAll_nil g2
  have ea:args= #[v0,v1,v2]:=by cases args;simp_all
  subst ea
  obtain⟨a0,rfl,rfl,rfl,w0⟩:=open_int Tryz.underlying3 (hval0 0 3 v0 rfl rfl) h0
  obtain⟨a1,c1,w1⟩:=VH (by kernel_rfl) ar6 (hval0 1 30 v1 rfl rfl) h1 (VW hk0 (j:=1) rfl)
  obtain⟨a2,c2,w2⟩:=VI Tryz.underlying31 ar7 (hval0 2 31 v2 rfl rfl) h2 (VW hk0 (j:=2) rfl)
  obtain⟨fu,hl⟩:=ato a0 a1 a2 w0 w1 w2
  exact atp (us:=[.int .i64 a0,v1,v2]) (xB fu a0 a1 a2 true hl) rfl fun i x u hx hu=>by
    match i with
    |0=>simp at hx hu;subst hx hu;exact .v
    |1=>simp at hx hu;subst hx hu;exact c1
    |2=>simp at hx hu;subst hx hu;exact c2
    |i+3=>simp at hx
theorem movesNothing_holds:Rows.MovesNothingUptoSaid:=
  OpenClaim.holds_of_cond 4 Tryz.f4 rfl rfl rfl rfl rfl rfl rfl ⟨rfl,rfl,rfl,rfl,rfl⟩ rfl rfl rfl rfl rfl (by kernel_rfl) Tryz.func4 joined
    (of_decide_eq_true (by kernel_rfl)) (by unfold Func.isWrapper;first|(rw[if_pos (by decide+kernel)];kernel_rfl)|(rw[if_neg (by decide+kernel)];exact⟨rfl,rfl⟩))
    (λos started H enc _ F=>lifted os started H enc F)
#print axioms movesNothing_holds
end Go.Proofs.YtiagecndhhinfaaGreat
