/- The arguments of a law, by their types. Made by a program of mine. Conditions: none. -/
import Derived.Test.YteafmomjfnlkgaaGreatBs
import Derived.Test.YteafmomjfnlkgaaGreatQS
import Derived.Test.YteafmomjfnlkgaaGreatProg
set_option linter.unusedVariables false
open Go Go.Proofs
namespace Go.Av
theorem is3{H:Type}{enc:TypeId×Value->H}{W:World}:Is enc Tryz.prog W 3 (λn:Int=>[.v (.int .i64 n)]) (λn=>(Lit.int .i64 n).wf=true):=is_int Tryz.underlying3
theorem is22{H:Type}{enc:TypeId×Value→H}{W:World}:Is enc Tryz.prog W 22 (fun l:List Int=>[.arr l.length (lm (ik .i64) l)]) (fun l=>l.length*8≤140737488351232∧ ∀ z0 ∈ l,((Lit.int .i64 z0).wf=true)):=by
  have h:=is_slice (enc:=enc) (W:=W) Tryz.underlying22 is3 (show Tryz.prog.cellsOf 3=1 by kernel_rfl) (by decide) (λ_=>rfl)
  rw[show Tryz.prog.bytesOf 3=8 by kernel_rfl]at h
  exact is_map h id (λl=>by rw[lm_fm];rfl) λl hl=>hl
theorem is4{H:Type}{enc:TypeId×Value->H}{W:World}:Is enc Tryz.prog W 4 (λn:Bool=>[.v (.bool n)]) (λn=>True):=is_bool Tryz.underlying4
theorem is23{H:Type}{enc:TypeId×Value->H}{W:World}:Is enc Tryz.prog W 23 (λn:Int=>[.v (.int .u32 n)]) (λn=>(Lit.int .u32 n).wf=true):=is_int Tryz.underlying23
theorem is24{H:Type}{enc:TypeId×Value→H}{W:World}:Is enc Tryz.prog W 24 (fun l:List Int=>[.arr l.length (lm (ik .u32) l)]) (fun l=>l.length*4≤140737488351232∧ ∀ z0 ∈ l,((Lit.int .u32 z0).wf=true)):=by
  have h:=is_slice (enc:=enc) (W:=W) Tryz.underlying24 is23 (show Tryz.prog.cellsOf 23=1 by kernel_rfl) (by decide) (λ_=>rfl)
  rw[show Tryz.prog.bytesOf 23=4 by kernel_rfl]at h
  exact is_map h id (λl=>by rw[lm_fm];rfl) λl hl=>hl
theorem is2{H:Type}{enc:TypeId×Value->H}{W:World}:Is enc Tryz.prog W 2 (λn:Int=>[.v (.int .i64 n)]) (λn=>(Lit.int .i64 n).wf=true):=is_int Tryz.underlying2
theorem is25{H:Type}{enc:TypeId×Value→H}{W:World}:Is enc Tryz.prog W 25 (fun l:List Int=>[.arr l.length (lm (ik .i64) l)]) (fun l=>l.length*8≤140737488351232∧ ∀ z0 ∈ l,((Lit.int .i64 z0).wf=true)):=by
  have h:=is_slice (enc:=enc) (W:=W) Tryz.underlying25 is2 (show Tryz.prog.cellsOf 2=1 by kernel_rfl) (by decide) (λ_=>rfl)
  rw[show Tryz.prog.bytesOf 2=8 by kernel_rfl]at h
  exact is_map h id (λl=>by rw[lm_fm];rfl) λl hl=>hl
theorem is26{H:Type}{enc:TypeId×Value→H}{W:World}:Is enc Tryz.prog W 26 (fun l:List Bool=>[.arr l.length (lm (bk) l)]) (fun l=>l.length*1≤140737488351232∧ ∀ z0 ∈ l,True):=by
  have h:=is_slice (enc:=enc) (W:=W) Tryz.underlying26 is4 (show Tryz.prog.cellsOf 4=1 by kernel_rfl) (by decide) (λ_=>rfl)
  rw[show Tryz.prog.bytesOf 4=1 by kernel_rfl]at h
  exact is_map h id (λl=>by rw[lm_fm];rfl) λl hl=>hl
def Q_28(x:T_Tensor):Prop:=((Lit.int .i64 x.fType).wf=true)/\(x.fDims.length*8<=140737488351232/\ ∀ z0 ∈ x.fDims,((Lit.int .i64 z0).wf=true))/\(x.fF.length*4<=140737488351232/\ ∀ z0 ∈ x.fF,((Lit.int .u32 z0).wf=true))/\(x.fI.length*8<=140737488351232/\ ∀ z0 ∈ x.fI,((Lit.int .i64 z0).wf=true))/\(x.fB.length*1<=140737488351232/\ ∀ z0 ∈ x.fB,True)/\True
theorem is28{H:Type}{enc:TypeId×Value→H}{W:World}:Is enc Tryz.prog W 28 c_T_Tensor Q_28:=
  is_map (is_struct (by kernel_rfl) (by kernel_rfl) (by kernel_rfl) (isF_cons is3 (isF_cons is22 (isF_cons is24 (isF_cons is25 (isF_cons is26 isF_nil)))))) (λp=>T_Tensor.mk p.1 p.2.1 p.2.2.1 p.2.2.2.1 p.2.2.2.2.1) (λ_=>rfl) (λ_ h=>h)
def Q_30(x:T_Setting):Prop:=((Lit.int .i64 x.fAxis).wf=true)/\(x.fAxes.length*8<=140737488351232/\ ∀ z0 ∈ x.fAxes,((Lit.int .i64 z0).wf=true))/\(True)/\(True)/\(True)/\(True)/\(True)/\(x.fPerm.length*8<=140737488351232/\ ∀ z0 ∈ x.fPerm,((Lit.int .i64 z0).wf=true))/\(True)/\((Lit.int .u32 x.fAlpha).wf=true)/\((Lit.int .u32 x.fBeta).wf=true)/\((Lit.int .u32 x.fEpsilon).wf=true)/\(True)/\(True)/\(True)/\((Lit.int .i64 x.fTo).wf=true)/\((Lit.int .i64 x.fMode).wf=true)/\(True)/\(True)/\((Lit.int .i64 x.fGroup).wf=true)/\(x.fKernel.length*8<=140737488351232/\ ∀ z0 ∈ x.fKernel,((Lit.int .i64 z0).wf=true))/\(x.fStrides.length*8<=140737488351232/\ ∀ z0 ∈ x.fStrides,((Lit.int .i64 z0).wf=true))/\(x.fPads.length*8<=140737488351232/\ ∀ z0 ∈ x.fPads,((Lit.int .i64 z0).wf=true))/\(x.fDilations.length*8<=140737488351232/\ ∀ z0 ∈ x.fDilations,((Lit.int .i64 z0).wf=true))/\((Lit.int .i64 x.fAuto).wf=true)/\(True)/\(True)/\((Lit.int .i64 x.fBlock).wf=true)/\((Lit.int .i64 x.fStart).wf=true)/\((Lit.int .i64 x.fEnd).wf=true)/\(True)/\(Q_28 x.fValue)/\True
theorem is30{H:Type}{enc:TypeId×Value→H}{W:World}:Is enc Tryz.prog W 30 c_T_Setting Q_30:=
  is_map (is_struct (by kernel_rfl) (by kernel_rfl) (by kernel_rfl) (isF_cons is3 (isF_cons is22 (isF_cons is4 (isF_cons is4 (isF_cons is4 (isF_cons is4 (isF_cons is4 (isF_cons is22 (isF_cons is4 (isF_cons is23 (isF_cons is23 (isF_cons is23 (isF_cons is4 (isF_cons is4 (isF_cons is4 (isF_cons is3 (isF_cons is3 (isF_cons is4 (isF_cons is4 (isF_cons is3 (isF_cons is22 (isF_cons is22 (isF_cons is22 (isF_cons is22 (isF_cons is3 (isF_cons is4 (isF_cons is4 (isF_cons is3 (isF_cons is3 (isF_cons is3 (isF_cons is4 (isF_cons is28 isF_nil))))))))))))))))))))))))))))))))) (λp=>T_Setting.mk p.1 p.2.1 p.2.2.1 p.2.2.2.1 p.2.2.2.2.1 p.2.2.2.2.2.1 p.2.2.2.2.2.2.1 p.2.2.2.2.2.2.2.1 p.2.2.2.2.2.2.2.2.1 p.2.2.2.2.2.2.2.2.2.1 p.2.2.2.2.2.2.2.2.2.2.1 p.2.2.2.2.2.2.2.2.2.2.2.1 p.2.2.2.2.2.2.2.2.2.2.2.2.1 p.2.2.2.2.2.2.2.2.2.2.2.2.2.1 p.2.2.2.2.2.2.2.2.2.2.2.2.2.2.1 p.2.2.2.2.2.2.2.2.2.2.2.2.2.2.2.1 p.2.2.2.2.2.2.2.2.2.2.2.2.2.2.2.2.1 p.2.2.2.2.2.2.2.2.2.2.2.2.2.2.2.2.2.1 p.2.2.2.2.2.2.2.2.2.2.2.2.2.2.2.2.2.2.1 p.2.2.2.2.2.2.2.2.2.2.2.2.2.2.2.2.2.2.2.1 p.2.2.2.2.2.2.2.2.2.2.2.2.2.2.2.2.2.2.2.2.1 p.2.2.2.2.2.2.2.2.2.2.2.2.2.2.2.2.2.2.2.2.2.1 p.2.2.2.2.2.2.2.2.2.2.2.2.2.2.2.2.2.2.2.2.2.2.1 p.2.2.2.2.2.2.2.2.2.2.2.2.2.2.2.2.2.2.2.2.2.2.2.1 p.2.2.2.2.2.2.2.2.2.2.2.2.2.2.2.2.2.2.2.2.2.2.2.2.1 p.2.2.2.2.2.2.2.2.2.2.2.2.2.2.2.2.2.2.2.2.2.2.2.2.2.1 p.2.2.2.2.2.2.2.2.2.2.2.2.2.2.2.2.2.2.2.2.2.2.2.2.2.2.1 p.2.2.2.2.2.2.2.2.2.2.2.2.2.2.2.2.2.2.2.2.2.2.2.2.2.2.2.1 p.2.2.2.2.2.2.2.2.2.2.2.2.2.2.2.2.2.2.2.2.2.2.2.2.2.2.2.2.1 p.2.2.2.2.2.2.2.2.2.2.2.2.2.2.2.2.2.2.2.2.2.2.2.2.2.2.2.2.2.1 p.2.2.2.2.2.2.2.2.2.2.2.2.2.2.2.2.2.2.2.2.2.2.2.2.2.2.2.2.2.2.1 p.2.2.2.2.2.2.2.2.2.2.2.2.2.2.2.2.2.2.2.2.2.2.2.2.2.2.2.2.2.2.2.1) (λ_=>rfl) (λ_ h=>h)
end Go.Av
