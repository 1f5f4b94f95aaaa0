/- The arguments of a law, by their types. Made by a program of mine. Conditions: none. -/
import Derived.Test.YteafmomjfnlkgaaGreatBu
import Derived.Test.YteafmomjfnlkgaaGreatQS
import Derived.Test.YteafmomjfnlkgaaGreatProg
set_option linter.unusedVariables false
open Go Go.Proofs
namespace Go.Av
theorem vk{H:Type}{M:kY H}{enc:TypeId×Value->H}{W:World}:Is M enc Tryz.prog W 3 (λn:Int=>[.v (.int .i64 n)]) (λn=>(Lit.int .i64 n).wf=true):=Q5 Tryz.underlying3
theorem Aj{H:Type}{M:kY H}{enc:TypeId×Value→H}{W:World}:Is M enc Tryz.prog W 22 (fun l:List Int=>[.arr l.length (lm (ik .i64) l)]) (fun l=>l.length≤1048576∧ ∀ z0 ∈ l,((Lit.int .i64 z0).wf=true)):=by
  have h:=CX (M:=M) (enc:=enc) (W:=W) Tryz.underlying22 vk (show Tryz.prog.cellsOf 3=1 by kernel_rfl) (by decide) (λ_=>rfl)
  exact zS h id (λl=>by rw[GV];rfl) λl hl=>hl
theorem nX{H:Type}{M:kY H}{enc:TypeId×Value->H}{W:World}:Is M enc Tryz.prog W 4 (λn:Bool=>[.v (.bool n)]) (λn=>True):=ajY Tryz.underlying4
theorem JD{H:Type}{M:kY H}{enc:TypeId×Value->H}{W:World}:Is M enc Tryz.prog W 23 (λn:Int=>[.v (.int .u32 n)]) (λn=>(Lit.int .u32 n).wf=true):=Q5 Tryz.underlying23
theorem arQ{H:Type}{M:kY H}{enc:TypeId×Value→H}{W:World}:Is M enc Tryz.prog W 24 (fun l:List Int=>[.arr l.length (lm (ik .u32) l)]) (fun l=>l.length≤1048576∧ ∀ z0 ∈ l,((Lit.int .u32 z0).wf=true)):=by
  have h:=CX (M:=M) (enc:=enc) (W:=W) Tryz.underlying24 JD (show Tryz.prog.cellsOf 23=1 by kernel_rfl) (by decide) (λ_=>rfl)
  exact zS h id (λl=>by rw[GV];rfl) λl hl=>hl
theorem is2{H:Type}{M:kY H}{enc:TypeId×Value->H}{W:World}:Is M enc Tryz.prog W 2 (λn:Int=>[.v (.int .i64 n)]) (λn=>(Lit.int .i64 n).wf=true):=Q5 Tryz.underlying2
theorem aBv{H:Type}{M:kY H}{enc:TypeId×Value→H}{W:World}:Is M enc Tryz.prog W 25 (fun l:List Int=>[.arr l.length (lm (ik .i64) l)]) (fun l=>l.length≤1048576∧ ∀ z0 ∈ l,((Lit.int .i64 z0).wf=true)):=by
  have h:=CX (M:=M) (enc:=enc) (W:=W) Tryz.underlying25 is2 (show Tryz.prog.cellsOf 2=1 by kernel_rfl) (by decide) (λ_=>rfl)
  exact zS h id (λl=>by rw[GV];rfl) λl hl=>hl
theorem auf{H:Type}{M:kY H}{enc:TypeId×Value→H}{W:World}:Is M enc Tryz.prog W 26 (fun l:List Bool=>[.arr l.length (lm (bk) l)]) (fun l=>l.length≤1048576∧ ∀ z0 ∈ l,True):=by
  have h:=CX (M:=M) (enc:=enc) (W:=W) Tryz.underlying26 nX (show Tryz.prog.cellsOf 4=1 by kernel_rfl) (by decide) (λ_=>rfl)
  exact zS h id (λl=>by rw[GV];rfl) λl hl=>hl
def Q_28(x:T_Tensor):Prop:=((Lit.int .i64 x.fType).wf=true)/\(x.fDims.length<=1048576/\ ∀ z0 ∈ x.fDims,((Lit.int .i64 z0).wf=true))/\(x.fF.length<=1048576/\ ∀ z0 ∈ x.fF,((Lit.int .u32 z0).wf=true))/\(x.fI.length<=1048576/\ ∀ z0 ∈ x.fI,((Lit.int .i64 z0).wf=true))/\(x.fB.length<=1048576/\ ∀ z0 ∈ x.fB,True)/\True
theorem afb{H:Type}{M:kY H}{enc:TypeId×Value→H}{W:World}:Is M enc Tryz.prog W 28 bV Q_28:=
  zS (ZC (by kernel_rfl) (by kernel_rfl) (by kernel_rfl) (eQ vk (eQ Aj (eQ arQ (eQ aBv (eQ auf Yn)))))) (λp=>T_Tensor.mk p.1 p.2.1 p.2.2.1 p.2.2.2.1 p.2.2.2.2.1) (λ_=>rfl) (λ_ h=>h)
def Q_30(x:T_Setting):Prop:=((Lit.int .i64 x.fAxis).wf=true)/\(x.fAxes.length<=1048576/\ ∀ z0 ∈ x.fAxes,((Lit.int .i64 z0).wf=true))/\(True)/\(True)/\(True)/\(True)/\(True)/\(x.fPerm.length<=1048576/\ ∀ z0 ∈ x.fPerm,((Lit.int .i64 z0).wf=true))/\(True)/\((Lit.int .u32 x.fAlpha).wf=true)/\((Lit.int .u32 x.fBeta).wf=true)/\((Lit.int .u32 x.fEpsilon).wf=true)/\(True)/\(True)/\(True)/\((Lit.int .i64 x.fTo).wf=true)/\((Lit.int .i64 x.fMode).wf=true)/\(True)/\(True)/\((Lit.int .i64 x.fGroup).wf=true)/\(x.fKernel.length<=1048576/\ ∀ z0 ∈ x.fKernel,((Lit.int .i64 z0).wf=true))/\(x.fStrides.length<=1048576/\ ∀ z0 ∈ x.fStrides,((Lit.int .i64 z0).wf=true))/\(x.fPads.length<=1048576/\ ∀ z0 ∈ x.fPads,((Lit.int .i64 z0).wf=true))/\(x.fDilations.length<=1048576/\ ∀ z0 ∈ x.fDilations,((Lit.int .i64 z0).wf=true))/\((Lit.int .i64 x.fAuto).wf=true)/\(True)/\(True)/\((Lit.int .i64 x.fBlock).wf=true)/\((Lit.int .i64 x.fStart).wf=true)/\((Lit.int .i64 x.fEnd).wf=true)/\(True)/\(Q_28 x.fValue)/\True
theorem azq{H:Type}{M:kY H}{enc:TypeId×Value→H}{W:World}:Is M enc Tryz.prog W 30 dL Q_30:=
  zS (ZC (by kernel_rfl) (by kernel_rfl) (by kernel_rfl) (eQ vk (eQ Aj (eQ nX (eQ nX (eQ nX (eQ nX (eQ nX (eQ Aj (eQ nX (eQ JD (eQ JD (eQ JD (eQ nX (eQ nX (eQ nX (eQ vk (eQ vk (eQ nX (eQ nX (eQ vk (eQ Aj (eQ Aj (eQ Aj (eQ Aj (eQ vk (eQ nX (eQ nX (eQ vk (eQ vk (eQ vk (eQ nX (eQ afb Yn))))))))))))))))))))))))))))))))) (λp=>T_Setting.mk p.1 p.2.1 p.2.2.1 p.2.2.2.1 p.2.2.2.2.1 p.2.2.2.2.2.1 p.2.2.2.2.2.2.1 p.2.2.2.2.2.2.2.1 p.2.2.2.2.2.2.2.2.1 p.2.2.2.2.2.2.2.2.2.1 p.2.2.2.2.2.2.2.2.2.2.1 p.2.2.2.2.2.2.2.2.2.2.2.1 p.2.2.2.2.2.2.2.2.2.2.2.2.1 p.2.2.2.2.2.2.2.2.2.2.2.2.2.1 p.2.2.2.2.2.2.2.2.2.2.2.2.2.2.1 p.2.2.2.2.2.2.2.2.2.2.2.2.2.2.2.1 p.2.2.2.2.2.2.2.2.2.2.2.2.2.2.2.2.1 p.2.2.2.2.2.2.2.2.2.2.2.2.2.2.2.2.2.1 p.2.2.2.2.2.2.2.2.2.2.2.2.2.2.2.2.2.2.1 p.2.2.2.2.2.2.2.2.2.2.2.2.2.2.2.2.2.2.2.1 p.2.2.2.2.2.2.2.2.2.2.2.2.2.2.2.2.2.2.2.2.1 p.2.2.2.2.2.2.2.2.2.2.2.2.2.2.2.2.2.2.2.2.2.1 p.2.2.2.2.2.2.2.2.2.2.2.2.2.2.2.2.2.2.2.2.2.2.1 p.2.2.2.2.2.2.2.2.2.2.2.2.2.2.2.2.2.2.2.2.2.2.2.1 p.2.2.2.2.2.2.2.2.2.2.2.2.2.2.2.2.2.2.2.2.2.2.2.2.1 p.2.2.2.2.2.2.2.2.2.2.2.2.2.2.2.2.2.2.2.2.2.2.2.2.2.1 p.2.2.2.2.2.2.2.2.2.2.2.2.2.2.2.2.2.2.2.2.2.2.2.2.2.2.1 p.2.2.2.2.2.2.2.2.2.2.2.2.2.2.2.2.2.2.2.2.2.2.2.2.2.2.2.1 p.2.2.2.2.2.2.2.2.2.2.2.2.2.2.2.2.2.2.2.2.2.2.2.2.2.2.2.2.1 p.2.2.2.2.2.2.2.2.2.2.2.2.2.2.2.2.2.2.2.2.2.2.2.2.2.2.2.2.2.1 p.2.2.2.2.2.2.2.2.2.2.2.2.2.2.2.2.2.2.2.2.2.2.2.2.2.2.2.2.2.2.1 p.2.2.2.2.2.2.2.2.2.2.2.2.2.2.2.2.2.2.2.2.2.2.2.2.2.2.2.2.2.2.2.1) (λ_=>rfl) (λ_ h=>h)
theorem aps{H:Type}{M:kY H}{enc:TypeId×Value→H}{W:World}:Is M enc Tryz.prog W 31 (fun l:List T_Tensor=>[.arr l.length (fm bV l)]) (fun l=>l.length≤1048576∧ ∀ z0 ∈ l,(Q_28 z0)):=by
  have h:=CX (M:=M) (enc:=enc) (W:=W) Tryz.underlying31 afb (show Tryz.prog.cellsOf 28=5 by kernel_rfl) (by decide) kE
  exact h
end Go.Av
