/- The arguments of a law, by their types. Made by a program of mine. Conditions: none. -/
import Derived.Test.YtnpnomlnajgbcaaGreatBs
import Derived.Test.YtnpnomlnajgbcaaGreatQS
import Derived.Test.YtnpnomlnajgbcaaGreatProg
set_option linter.unusedVariables false
open Go Go.Proofs
namespace Go.Av
theorem is3{H:Type}{enc:TypeId×Value->H}{W:World}:Is enc Tryz.prog W 3 (λn:Int=>[.v (.int .i64 n)]) (λn=>(Lit.int .i64 n).wf=true):=is_int Tryz.underlying3
theorem is22{H:Type}{enc:TypeId×Value→H}{W:World}:Is enc Tryz.prog W 22 (fun l:List Int=>[.arr l.length (lm (ik .i64) l)]) (fun l=>l.length*8≤140737488351232∧ ∀ z0 ∈ l,((Lit.int .i64 z0).wf=true)):=by
  have h:=is_slice (enc:=enc) (W:=W) Tryz.underlying22 is3 (show Tryz.prog.cellsOf 3=1 by kernel_rfl) (by decide) (λ_=>rfl)
  rw[show Tryz.prog.bytesOf 3=8 by kernel_rfl]at h
  exact is_map h id (λl=>by rw[lm_fm];rfl) λl hl=>hl
theorem is33{H:Type}{enc:TypeId×Value->H}{W:World}:Is enc Tryz.prog W 33 (λn:Int=>[.v (.int .u32 n)]) (λn=>(Lit.int .u32 n).wf=true):=is_int Tryz.underlying33
theorem is23{H:Type}{enc:TypeId×Value→H}{W:World}:Is enc Tryz.prog W 23 (fun l:List Int=>[.arr l.length (lm (ik .u32) l)]) (fun l=>l.length*4≤140737488351232∧ ∀ z0 ∈ l,((Lit.int .u32 z0).wf=true)):=by
  have h:=is_slice (enc:=enc) (W:=W) Tryz.underlying23 is33 (show Tryz.prog.cellsOf 33=1 by kernel_rfl) (by decide) (λ_=>rfl)
  rw[show Tryz.prog.bytesOf 33=4 by kernel_rfl]at h
  exact is_map h id (λl=>by rw[lm_fm];rfl) λl hl=>hl
theorem is2{H:Type}{enc:TypeId×Value->H}{W:World}:Is enc Tryz.prog W 2 (λn:Int=>[.v (.int .i64 n)]) (λn=>(Lit.int .i64 n).wf=true):=is_int Tryz.underlying2
theorem is24{H:Type}{enc:TypeId×Value→H}{W:World}:Is enc Tryz.prog W 24 (fun l:List Int=>[.arr l.length (lm (ik .i64) l)]) (fun l=>l.length*8≤140737488351232∧ ∀ z0 ∈ l,((Lit.int .i64 z0).wf=true)):=by
  have h:=is_slice (enc:=enc) (W:=W) Tryz.underlying24 is2 (show Tryz.prog.cellsOf 2=1 by kernel_rfl) (by decide) (λ_=>rfl)
  rw[show Tryz.prog.bytesOf 2=8 by kernel_rfl]at h
  exact is_map h id (λl=>by rw[lm_fm];rfl) λl hl=>hl
theorem is4{H:Type}{enc:TypeId×Value->H}{W:World}:Is enc Tryz.prog W 4 (λn:Bool=>[.v (.bool n)]) (λn=>True):=is_bool Tryz.underlying4
theorem is25{H:Type}{enc:TypeId×Value→H}{W:World}:Is enc Tryz.prog W 25 (fun l:List Bool=>[.arr l.length (lm (bk) l)]) (fun l=>l.length*1≤140737488351232∧ ∀ z0 ∈ l,True):=by
  have h:=is_slice (enc:=enc) (W:=W) Tryz.underlying25 is4 (show Tryz.prog.cellsOf 4=1 by kernel_rfl) (by decide) (λ_=>rfl)
  rw[show Tryz.prog.bytesOf 4=1 by kernel_rfl]at h
  exact is_map h id (λl=>by rw[lm_fm];rfl) λl hl=>hl
def Q_27(x:T_Tensor):Prop:=((Lit.int .i64 x.fType).wf=true)/\(x.fDims.length*8<=140737488351232/\ ∀ z0 ∈ x.fDims,((Lit.int .i64 z0).wf=true))/\(x.fF.length*4<=140737488351232/\ ∀ z0 ∈ x.fF,((Lit.int .u32 z0).wf=true))/\(x.fI.length*8<=140737488351232/\ ∀ z0 ∈ x.fI,((Lit.int .i64 z0).wf=true))/\(x.fB.length*1<=140737488351232/\ ∀ z0 ∈ x.fB,True)/\True
theorem is27{H:Type}{enc:TypeId×Value→H}{W:World}:Is enc Tryz.prog W 27 c_T_Tensor Q_27:=
  is_map (is_struct (by kernel_rfl) (by kernel_rfl) (by kernel_rfl) (isF_cons is3 (isF_cons is22 (isF_cons is23 (isF_cons is24 (isF_cons is25 isF_nil)))))) (λp=>T_Tensor.mk p.1 p.2.1 p.2.2.1 p.2.2.2.1 p.2.2.2.2.1) (λ_=>rfl) (λ_ h=>h)
end Go.Av
