/- The walks of the plain functions, part 3. Made by a program of mine. Conditions: none. -/
import Derived.Test.YtebfneaimafcoaaGreatQ4W3
set_option linter.unusedVariables false
set_option linter.unusedSimpArgs false
set_option linter.defProp false
set_option maxRecDepth 20000
open Go Go.Proofs
namespace Go.Av
open Aw (d17 d22 d23 d24 d25 d26 d27 d38 d39 d40 d41 d42 d43 d44 d45 d54 d60 d62 d80 d81 d82 d83 d84 d85 d86 d87 d88 d89 d91 d92 d93 d94 d95 d100 d106 d107 d120 d148 d149 d150 d152 d153 d154 d155 d159 d160 d161 d162 d163 d164 d165 d166 d168 d184 d195 d196 d197)
open Aw (d185)
open Aw (d112)
open Aw (d111)
open Aw (d50)
open Aw (d33)
open Aw (d47)
open Aw (d13)
set_option maxHeartbeats 400000000 in
open reduce_Do in
theorem w13_65(cp:CallP)(fu:Nat)(x1:Int)(x2:T_Setting)(x3:List T_Tensor)(H1:K22 fu cp)(H2:K23 fu cp)(H3:K24 fu cp)(H4:K26 fu cp)(H5:K25 fu cp)(H6:K27 fu cp)(H7:K108 fu cp)(H8:K54 fu cp)(H9:K109 fu cp)(H10:K49 fu cp)(H11:K126 fu cp)(H12:K65 fu cp)(H13:K133 fu cp)(H14:K127 fu cp)(H15:K135 fu cp)(H16:K130 fu cp)(H17:K137 fu cp)(H18:cp 63 [.v (.int .i64 65)]=some (.fn 9 [] [])∧cp 63 [.v (.int .i64 67)]=some (.fn 126 [] [])∧cp 63 [.v (.int .i64 68)]=some (.fn 127 [] [])∧cp 63 [.v (.int .i64 69)]=some (.fn 129 [] []))(H19:cp 64 [.v (.int .i64 65)]=some (.fn 130 [] [])∧cp 64 [.v (.int .i64 67)]=some (.fn 133 [] [])∧cp 64 [.v (.int .i64 68)]=some (.fn 135 [] [])∧cp 64 [.v (.int .i64 69)]=some (.fn 137 [] []))(c:x1=65):J (go Tryz.prog (inlC [33,47]) cp (ciE Tryz.prog (inlC [33,47]) cp (ciE Tryz.prog (inlC [33,47]) cp (ciY 110 (cy110 fu) noI) fu 47 d47 ⟨b47,[.tmp 2],[74]⟩ (ciY 110 (cy110 fu) noI)) fu 33 d33 ⟨b33,[],[]⟩ (ciE Tryz.prog (inlC [33,47]) cp (ciY 110 (cy110 fu) noI) fu 47 d47 ⟨b47,[.tmp 2],[74]⟩ (ciY 110 (cy110 fu) noI))) 0 [] d13 fu (finS Tryz.prog [.cell 6 31,.tmp 7] [31,32]) (bodyOf Tryz.f13) (initE 0 [.v (.int .i64 x1),.agg (c_T_Setting x2),.arr x3.length (fm c_T_Tensor x3)]) [] []) ((reduce_Has fu 65).bind fun x128=>if x128=true then(jn 5 () (fun(t:List T_Tensor)=>reduce_Do.k5 fu x2 x3 t)<|reduce_Do.W6 fu x2 x3 ([]:List T_Tensor) 0)else some (T_Tensor.mk 0 ([]) ([]) ([]) ([]),1)) e13:=by
 unfold e13
 have da:=d13_at
 conv=>arg 1;simp only[bodyOf,Tryz.f13]
 have z0:=d13_at
 have z1:=SE
 have z2:=RL
 have z3:=d33_at
 have z4:=Tryz.f33.eq_1
 have z5:= @go_b33
 have z6:=d47_at
 have z7:=Tryz.f47.eq_1
 have z8:= @go_b47
 have z9:=RI
 have z10:=RIk
 have z11:= @bodyOf.eq_1
 have z12:=RY
 have z13:= @sf25
 have z14:= @sf85
 exact Wk
end Go.Av
