/- The arguments of a law, by their types. Made by a program of mine. Conditions: none. -/
import Derived.Test.YtiagecndhhinfaaGreatBu
import Derived.Test.YtiagecndhhinfaaGreatQS
import Derived.Test.YtiagecndhhinfaaGreatProg
set_option linter.unusedVariables false
open Go Go.Proofs
namespace Go.Av
theorem ul{H:Type}{M:lN H}{enc:TypeId×Value->H}{W:World}:Is M enc Tryz.prog W 3 (λn:Int=>[.v (.int .i64 n)]) (λn=>(Lit.int .i64 n).wf=true):=Lr Tryz.underlying3
theorem zg{H:Type}{M:lN H}{enc:TypeId×Value→H}{W:World}:Is M enc Tryz.prog W 22 (fun l:List Int=>[.arr l.length (lm (ik .i64) l)]) (fun l=>l.length≤1048576∧ ∀ z0 ∈ l,((Lit.int .i64 z0).wf=true)):=by
  have h:=BC (M:=M) (enc:=enc) (W:=W) Tryz.underlying22 ul (show Tryz.prog.cellsOf 3=1 by kernel_rfl) (by decide) (λ_=>rfl)
  exact zh h id (λl=>by rw[EG];rfl) λl hl=>hl
theorem oO{H:Type}{M:lN H}{enc:TypeId×Value->H}{W:World}:Is M enc Tryz.prog W 4 (λn:Bool=>[.v (.bool n)]) (λn=>True):=aaM Tryz.underlying4
theorem Lp{H:Type}{M:lN H}{enc:TypeId×Value->H}{W:World}:Is M enc Tryz.prog W 23 (λn:Int=>[.v (.int .u32 n)]) (λn=>(Lit.int .u32 n).wf=true):=Lr Tryz.underlying23
theorem ar2{H:Type}{M:lN H}{enc:TypeId×Value→H}{W:World}:Is M enc Tryz.prog W 24 (fun l:List Int=>[.arr l.length (lm (ik .u32) l)]) (fun l=>l.length≤1048576∧ ∀ z0 ∈ l,((Lit.int .u32 z0).wf=true)):=by
  have h:=BC (M:=M) (enc:=enc) (W:=W) Tryz.underlying24 Lp (show Tryz.prog.cellsOf 23=1 by kernel_rfl) (by decide) (λ_=>rfl)
  exact zh h id (λl=>by rw[EG];rfl) λl hl=>hl
theorem is2{H:Type}{M:lN H}{enc:TypeId×Value->H}{W:World}:Is M enc Tryz.prog W 2 (λn:Int=>[.v (.int .i64 n)]) (λn=>(Lit.int .i64 n).wf=true):=Lr Tryz.underlying2
theorem ar4{H:Type}{M:lN H}{enc:TypeId×Value→H}{W:World}:Is M enc Tryz.prog W 25 (fun l:List Int=>[.arr l.length (lm (ik .i64) l)]) (fun l=>l.length≤1048576∧ ∀ z0 ∈ l,((Lit.int .i64 z0).wf=true)):=by
  have h:=BC (M:=M) (enc:=enc) (W:=W) Tryz.underlying25 is2 (show Tryz.prog.cellsOf 2=1 by kernel_rfl) (by decide) (λ_=>rfl)
  exact zh h id (λl=>by rw[EG];rfl) λl hl=>hl
theorem ar5{H:Type}{M:lN H}{enc:TypeId×Value→H}{W:World}:Is M enc Tryz.prog W 26 (fun l:List Bool=>[.arr l.length (lm (bk) l)]) (fun l=>l.length≤1048576∧ ∀ z0 ∈ l,True):=by
  have h:=BC (M:=M) (enc:=enc) (W:=W) Tryz.underlying26 oO (show Tryz.prog.cellsOf 4=1 by kernel_rfl) (by decide) (λ_=>rfl)
  exact zh h id (λl=>by rw[EG];rfl) λl hl=>hl
def Af(x:aj):Prop:=((Lit.int .i64 x.fType).wf=true)/\(x.fDims.length<=1048576/\ ∀ z0 ∈ x.fDims,((Lit.int .i64 z0).wf=true))/\(x.fF.length<=1048576/\ ∀ z0 ∈ x.fF,((Lit.int .u32 z0).wf=true))/\(x.fI.length<=1048576/\ ∀ z0 ∈ x.fI,((Lit.int .i64 z0).wf=true))/\(x.fB.length<=1048576/\ ∀ z0 ∈ x.fB,True)/\True
theorem aaL{H:Type}{M:lN H}{enc:TypeId×Value→H}{W:World}:Is M enc Tryz.prog W 28 bT Af:=
  zh (SX (by kernel_rfl) (by kernel_rfl) (by kernel_rfl) (gU ul (gU zg (gU ar2 (gU ar4 (gU ar5 SV)))))) (λp=>aj.mk p.1 p.2.1 p.2.2.1 p.2.2.2.1 p.2.2.2.2.1) (λ_=>rfl) (λ_ h=>h)
def Vl(x:dh):Prop:=((Lit.int .i64 x.fAxis).wf=true)/\(x.fAxes.length<=1048576/\ ∀ z0 ∈ x.fAxes,((Lit.int .i64 z0).wf=true))/\(True)/\(True)/\(True)/\(True)/\(True)/\(x.fPerm.length<=1048576/\ ∀ z0 ∈ x.fPerm,((Lit.int .i64 z0).wf=true))/\(True)/\((Lit.int .u32 x.fAlpha).wf=true)/\((Lit.int .u32 x.fBeta).wf=true)/\((Lit.int .u32 x.fEpsilon).wf=true)/\(True)/\(True)/\(True)/\((Lit.int .i64 x.fTo).wf=true)/\((Lit.int .i64 x.fMode).wf=true)/\(True)/\(True)/\((Lit.int .i64 x.fGroup).wf=true)/\(x.fKernel.length<=1048576/\ ∀ z0 ∈ x.fKernel,((Lit.int .i64 z0).wf=true))/\(x.fStrides.length<=1048576/\ ∀ z0 ∈ x.fStrides,((Lit.int .i64 z0).wf=true))/\(x.fPads.length<=1048576/\ ∀ z0 ∈ x.fPads,((Lit.int .i64 z0).wf=true))/\(x.fDilations.length<=1048576/\ ∀ z0 ∈ x.fDilations,((Lit.int .i64 z0).wf=true))/\((Lit.int .i64 x.fAuto).wf=true)/\(True)/\(True)/\((Lit.int .i64 x.fBlock).wf=true)/\((Lit.int .i64 x.fStart).wf=true)/\((Lit.int .i64 x.fEnd).wf=true)/\(True)/\(Af x.fValue)/\True
theorem ar6{H:Type}{M:lN H}{enc:TypeId×Value→H}{W:World}:Is M enc Tryz.prog W 30 mZ Vl:=
  zh (SX (by kernel_rfl) (by kernel_rfl) (by kernel_rfl) (gU ul (gU zg (gU oO (gU oO (gU oO (gU oO (gU oO (gU zg (gU oO (gU Lp (gU Lp (gU Lp (gU oO (gU oO (gU oO (gU ul (gU ul (gU oO (gU oO (gU ul (gU zg (gU zg (gU zg (gU zg (gU ul (gU oO (gU oO (gU ul (gU ul (gU ul (gU oO (gU aaL SV))))))))))))))))))))))))))))))))) (λp=>dh.mk p.1 p.2.1 p.2.2.1 p.2.2.2.1 p.2.2.2.2.1 p.2.2.2.2.2.1 p.2.2.2.2.2.2.1 p.2.2.2.2.2.2.2.1 p.2.2.2.2.2.2.2.2.1 p.2.2.2.2.2.2.2.2.2.1 p.2.2.2.2.2.2.2.2.2.2.1 p.2.2.2.2.2.2.2.2.2.2.2.1 p.2.2.2.2.2.2.2.2.2.2.2.2.1 p.2.2.2.2.2.2.2.2.2.2.2.2.2.1 p.2.2.2.2.2.2.2.2.2.2.2.2.2.2.1 p.2.2.2.2.2.2.2.2.2.2.2.2.2.2.2.1 p.2.2.2.2.2.2.2.2.2.2.2.2.2.2.2.2.1 p.2.2.2.2.2.2.2.2.2.2.2.2.2.2.2.2.2.1 p.2.2.2.2.2.2.2.2.2.2.2.2.2.2.2.2.2.2.1 p.2.2.2.2.2.2.2.2.2.2.2.2.2.2.2.2.2.2.2.1 p.2.2.2.2.2.2.2.2.2.2.2.2.2.2.2.2.2.2.2.2.1 p.2.2.2.2.2.2.2.2.2.2.2.2.2.2.2.2.2.2.2.2.2.1 p.2.2.2.2.2.2.2.2.2.2.2.2.2.2.2.2.2.2.2.2.2.2.1 p.2.2.2.2.2.2.2.2.2.2.2.2.2.2.2.2.2.2.2.2.2.2.2.1 p.2.2.2.2.2.2.2.2.2.2.2.2.2.2.2.2.2.2.2.2.2.2.2.2.1 p.2.2.2.2.2.2.2.2.2.2.2.2.2.2.2.2.2.2.2.2.2.2.2.2.2.1 p.2.2.2.2.2.2.2.2.2.2.2.2.2.2.2.2.2.2.2.2.2.2.2.2.2.2.1 p.2.2.2.2.2.2.2.2.2.2.2.2.2.2.2.2.2.2.2.2.2.2.2.2.2.2.2.1 p.2.2.2.2.2.2.2.2.2.2.2.2.2.2.2.2.2.2.2.2.2.2.2.2.2.2.2.2.1 p.2.2.2.2.2.2.2.2.2.2.2.2.2.2.2.2.2.2.2.2.2.2.2.2.2.2.2.2.2.1 p.2.2.2.2.2.2.2.2.2.2.2.2.2.2.2.2.2.2.2.2.2.2.2.2.2.2.2.2.2.2.1 p.2.2.2.2.2.2.2.2.2.2.2.2.2.2.2.2.2.2.2.2.2.2.2.2.2.2.2.2.2.2.2.1) (λ_=>rfl) (λ_ h=>h)
theorem ar7{H:Type}{M:lN H}{enc:TypeId×Value→H}{W:World}:Is M enc Tryz.prog W 31 (fun l:List aj=>[.arr l.length (fm bT l)]) (fun l=>l.length≤1048576∧ ∀ z0 ∈ l,(Af z0)):=by
  have h:=BC (M:=M) (enc:=enc) (W:=W) Tryz.underlying31 aaL (show Tryz.prog.cellsOf 28=5 by kernel_rfl) (by decide) nP
  exact h
end Go.Av
