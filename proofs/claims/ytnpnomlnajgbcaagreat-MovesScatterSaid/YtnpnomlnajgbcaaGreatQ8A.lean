/- The documents' examples, reckoned by the interpreter itself. Made by a program of mine. Conditions: none. -/
import Derived.Test.YtnpnomlnajgbcaaGreatLt
import Derived.Test.YtnpnomlnajgbcaaGreatProg
set_option linter.unusedVariables false
set_option linter.defProp false
set_option maxRecDepth 100000
open Go Go.Proofs
namespace Go.Av
namespace Aw
def bodyOf(f:Func):Code:=f.body.getD .skip
theorem mixed:Tryz.prog.follows .mixedOrders=true:=by kernel_rfl
def inl:Cfg:=inlC [25,51,86,87,88,100,101,102,103,159,180,181,182,187]
def inls:Cfg:=⟨inl.inl,λ_=>[(0,[])]⟩
def c0:CallP:=noP
def q0:CallI:=noI
theorem c0_ok:CpOK Tryz.prog c0:=noP_ok
theorem q0_ok:CiOK Tryz.prog q0:=noI_ok
def d17:List (Nat×List Nat):=[(0,[2]),(0,[]),(0,[0,3,4,5,6,7,8,9,10,11,12])]
noncomputable def n17:FInfo:=⟨bodyOf Tryz.f17,[.tmp 2],[4]⟩
theorem i17:finfo Tryz.prog 17 d17=some n17:=finfo_at Tryz.func17 rfl (by kernel_rfl) (by kernel_rfl)
noncomputable def c1:CallP:=orC 17 (λxs=>bodyP Tryz.prog inl c0 q0 100 d17 n17 xs) c0
theorem c1_ok:CpOK Tryz.prog c1:=orC_ok c0_ok λargs r h=>bodyP_ok mixed c0_ok q0_ok i17 h
def d57:List (Nat×List Nat):=[(0,[2]),(0,[3]),(0,[0]),(0,[]),(0,[5]),(0,[]),(0,[]),(0,[]),(0,[7]),(0,[]),(0,[]),(0,[]),(0,[9]),(0,[]),(0,[]),(0,[]),(0,[])]
noncomputable def n57:FInfo:=⟨bodyOf Tryz.f57,[.tmp 2],[3]⟩
theorem i57:finfo Tryz.prog 57 d57=some n57:=finfo_at Tryz.func57 rfl (by kernel_rfl) (by kernel_rfl)
noncomputable def c2:CallP:=orC 57 (λxs=>bodyP Tryz.prog inl c1 q0 100 d57 n57 xs) c1
theorem c2_ok:CpOK Tryz.prog c2:=orC_ok c1_ok λargs r h=>bodyP_ok mixed c1_ok q0_ok i57 h
def d31:List (Nat×List Nat):=[(0,[2]),(0,[]),(0,[0,3,4,5])]
noncomputable def n31:FInfo:=⟨bodyOf Tryz.f31,[.tmp 2],[4]⟩
theorem i31:finfo Tryz.prog 31 d31=some n31:=finfo_at Tryz.func31 rfl (by kernel_rfl) (by kernel_rfl)
noncomputable def c3:CallP:=orC 31 (λxs=>bodyP Tryz.prog inl c2 q0 100 d31 n31 xs) c2
theorem c3_ok:CpOK Tryz.prog c3:=orC_ok c2_ok λargs r h=>bodyP_ok mixed c2_ok q0_ok i31 h
def d59:List (Nat×List Nat):=[(0,[2]),(0,[]),(0,[0,3,4])]
noncomputable def n59:FInfo:=⟨bodyOf Tryz.f59,[.tmp 2],[4]⟩
theorem i59:finfo Tryz.prog 59 d59=some n59:=finfo_at Tryz.func59 rfl (by kernel_rfl) (by kernel_rfl)
noncomputable def c4:CallP:=orC 59 (λxs=>bodyP Tryz.prog inl c3 q0 100 d59 n59 xs) c3
theorem c4_ok:CpOK Tryz.prog c4:=orC_ok c3_ok λargs r h=>bodyP_ok mixed c3_ok q0_ok i59 h
def d60:List (Nat×List Nat):=[(0,[2]),(0,[]),(0,[0,3,4])]
noncomputable def n60:FInfo:=⟨bodyOf Tryz.f60,[.tmp 2],[4]⟩
theorem i60:finfo Tryz.prog 60 d60=some n60:=finfo_at Tryz.func60 rfl (by kernel_rfl) (by kernel_rfl)
noncomputable def c5:CallP:=orC 60 (λxs=>bodyP Tryz.prog inl c4 q0 100 d60 n60 xs) c4
theorem c5_ok:CpOK Tryz.prog c5:=orC_ok c4_ok λargs r h=>bodyP_ok mixed c4_ok q0_ok i60 h
def d99:List (Nat×List Nat):=[(0,[3]),(0,[]),(0,[0,1,4,5,6,7,8,9,10])]
noncomputable def n99:FInfo:=⟨bodyOf Tryz.f99,[.tmp 3],[4]⟩
theorem i99:finfo Tryz.prog 99 d99=some n99:=finfo_at Tryz.func99 rfl (by kernel_rfl) (by kernel_rfl)
noncomputable def c6:CallP:=orC 99 (λxs=>bodyP Tryz.prog inl c5 q0 100 d99 n99 xs) c5
theorem c6_ok:CpOK Tryz.prog c6:=orC_ok c5_ok λargs r h=>bodyP_ok mixed c5_ok q0_ok i99 h
def d175:List (Nat×List Nat):=[(0,[3]),(0,[]),(0,[0,1,4,5,6])]
noncomputable def n175:FInfo:=⟨bodyOf Tryz.f175,[.tmp 3],[4]⟩
theorem i175:finfo Tryz.prog 175 d175=some n175:=finfo_at Tryz.func175 rfl (by kernel_rfl) (by kernel_rfl)
noncomputable def c7:CallP:=orC 175 (λxs=>bodyP Tryz.prog inl c6 q0 100 d175 n175 xs) c6
theorem c7_ok:CpOK Tryz.prog c7:=orC_ok c6_ok λargs r h=>bodyP_ok mixed c6_ok q0_ok i175 h
def d112:List (Nat×List Nat):=[(0,[4]),(0,[0,1,7,8]),(0,[6]),(0,[5]),(0,[]),(0,[]),(0,[10]),(0,[]),(0,[11,12,13,14,15]),(0,[]),(0,[17]),(0,[]),(0,[18]),(0,[]),(0,[])]
noncomputable def n112:FInfo:=⟨bodyOf Tryz.f112,[.tmp 4],[3]⟩
theorem i112:finfo Tryz.prog 112 d112=some n112:=finfo_at Tryz.func112 rfl (by kernel_rfl) (by kernel_rfl)
noncomputable def c8:CallP:=orC 112 (λxs=>bodyP Tryz.prog inl c7 q0 100 d112 n112 xs) c7
theorem c8_ok:CpOK Tryz.prog c8:=orC_ok c7_ok λargs r h=>bodyP_ok mixed c7_ok q0_ok i112 h
def d58:List (Nat×List Nat):=[(0,[4]),(0,[]),(0,[0,1,5,6,7,8])]
noncomputable def n58:FInfo:=⟨bodyOf Tryz.f58,[.tmp 4],[4]⟩
theorem i58:finfo Tryz.prog 58 d58=some n58:=finfo_at Tryz.func58 rfl (by kernel_rfl) (by kernel_rfl)
noncomputable def c9:CallP:=orC 58 (λxs=>bodyP Tryz.prog inl c8 q0 100 d58 n58 xs) c8
theorem c9_ok:CpOK Tryz.prog c9:=orC_ok c8_ok λargs r h=>bodyP_ok mixed c8_ok q0_ok i58 h
def d113:List (Nat×List Nat):=[(0,[4]),(0,[0,1,7,8]),(0,[6]),(0,[5]),(0,[]),(0,[]),(0,[10]),(0,[]),(0,[11,12,13,14,15]),(0,[]),(0,[17]),(0,[]),(0,[18]),(0,[]),(0,[])]
noncomputable def n113:FInfo:=⟨bodyOf Tryz.f113,[.tmp 4],[3]⟩
theorem i113:finfo Tryz.prog 113 d113=some n113:=finfo_at Tryz.func113 rfl (by kernel_rfl) (by kernel_rfl)
noncomputable def c10:CallP:=orC 113 (λxs=>bodyP Tryz.prog inl c9 q0 100 d113 n113 xs) c9
theorem c10_ok:CpOK Tryz.prog c10:=orC_ok c9_ok λargs r h=>bodyP_ok mixed c9_ok q0_ok i113 h
def d61:List (Nat×List Nat):=[(0,[4]),(0,[]),(0,[0,1,5,6,7,8])]
noncomputable def n61:FInfo:=⟨bodyOf Tryz.f61,[.tmp 4],[4]⟩
theorem i61:finfo Tryz.prog 61 d61=some n61:=finfo_at Tryz.func61 rfl (by kernel_rfl) (by kernel_rfl)
noncomputable def c11:CallP:=orC 61 (λxs=>bodyP Tryz.prog inl c10 q0 100 d61 n61 xs) c10
theorem c11_ok:CpOK Tryz.prog c11:=orC_ok c10_ok λargs r h=>bodyP_ok mixed c10_ok q0_ok i61 h
def d32:List (Nat×List Nat):=[(0,[2,3]),(0,[18,19,20]),(0,[7]),(0,[]),(0,[]),(0,[]),(0,[9,10,11,12,13,14]),(0,[]),(0,[]),(0,[]),(0,[16]),(0,[]),(0,[]),(0,[]),(0,[]),(0,[]),(0,[0]),(0,[]),(0,[]),(0,[]),(0,[22,23]),(0,[]),(0,[24,25,26]),(0,[]),(0,[]),(0,[]),(0,[6,28,29,30]),(0,[]),(0,[31]),(0,[]),(0,[4,32])]
noncomputable def n32:FInfo:=⟨bodyOf Tryz.f32,[.tmp 2,.tmp 3],[3,30]⟩
theorem i32:finfo Tryz.prog 32 d32=some n32:=finfo_at Tryz.func32 rfl (by kernel_rfl) (by kernel_rfl)
noncomputable def c12:CallP:=orC 32 (λxs=>bodyP Tryz.prog inl c11 q0 100 d32 n32 xs) c11
theorem c12_ok:CpOK Tryz.prog c12:=orC_ok c11_ok λargs r h=>bodyP_ok mixed c11_ok q0_ok i32 h
def d18:List (Nat×List Nat):=[(0,[0,2]),(0,[23]),(0,[6,7,8]),(0,[]),(0,[]),(0,[]),(0,[10,11,12,13,14,15]),(0,[]),(0,[16]),(0,[]),(0,[18]),(0,[]),(0,[4,19,20,21]),(0,[]),(0,[22]),(0,[]),(0,[25]),(0,[]),(0,[26,27,28]),(0,[]),(0,[30]),(0,[]),(0,[31,32,33]),(0,[]),(0,[1,3,5,34,35,36,37,38,39,40,41,42,43,44,45,46,47,48,49,50]),(0,[]),(0,[]),(0,[]),(0,[])]
noncomputable def n18:FInfo:=⟨bodyOf Tryz.f18,[.tmp 2],[30]⟩
theorem i18:finfo Tryz.prog 18 d18=some n18:=finfo_at Tryz.func18 rfl (by kernel_rfl) (by kernel_rfl)
noncomputable def c13:CallP:=orC 18 (λxs=>bodyP Tryz.prog inl c12 q0 100 d18 n18 xs) c12
theorem c13_ok:CpOK Tryz.prog c13:=orC_ok c12_ok λargs r h=>bodyP_ok mixed c12_ok q0_ok i18 h
def d62:List (Nat×List Nat):=[(0,[2]),(0,[]),(0,[0,3,4,5])]
noncomputable def n62:FInfo:=⟨bodyOf Tryz.f62,[.tmp 2],[22]⟩
theorem i62:finfo Tryz.prog 62 d62=some n62:=finfo_at Tryz.func62 rfl (by kernel_rfl) (by kernel_rfl)
noncomputable def c14:CallP:=orC 62 (λxs=>bodyP Tryz.prog inl c13 q0 100 d62 n62 xs) c13
theorem c14_ok:CpOK Tryz.prog c14:=orC_ok c13_ok λargs r h=>bodyP_ok mixed c13_ok q0_ok i62 h
def d63:List (Nat×List Nat):=[(0,[2]),(0,[]),(0,[0,3,4,5])]
noncomputable def n63:FInfo:=⟨bodyOf Tryz.f63,[.tmp 2],[23]⟩
theorem i63:finfo Tryz.prog 63 d63=some n63:=finfo_at Tryz.func63 rfl (by kernel_rfl) (by kernel_rfl)
noncomputable def c15:CallP:=orC 63 (λxs=>bodyP Tryz.prog inl c14 q0 100 d63 n63 xs) c14
theorem c15_ok:CpOK Tryz.prog c15:=orC_ok c14_ok λargs r h=>bodyP_ok mixed c14_ok q0_ok i63 h
def d64:List (Nat×List Nat):=[(0,[2]),(0,[]),(0,[0,3,4,5])]
noncomputable def n64:FInfo:=⟨bodyOf Tryz.f64,[.tmp 2],[24]⟩
theorem i64:finfo Tryz.prog 64 d64=some n64:=finfo_at Tryz.func64 rfl (by kernel_rfl) (by kernel_rfl)
noncomputable def c16:CallP:=orC 64 (λxs=>bodyP Tryz.prog inl c15 q0 100 d64 n64 xs) c15
theorem c16_ok:CpOK Tryz.prog c16:=orC_ok c15_ok λargs r h=>bodyP_ok mixed c15_ok q0_ok i64 h
def d65:List (Nat×List Nat):=[(0,[2]),(0,[]),(0,[0,3,4,5])]
noncomputable def n65:FInfo:=⟨bodyOf Tryz.f65,[.tmp 2],[25]⟩
theorem i65:finfo Tryz.prog 65 d65=some n65:=finfo_at Tryz.func65 rfl (by kernel_rfl) (by kernel_rfl)
noncomputable def c17:CallP:=orC 65 (λxs=>bodyP Tryz.prog inl c16 q0 100 d65 n65 xs) c16
theorem c17_ok:CpOK Tryz.prog c17:=orC_ok c16_ok λargs r h=>bodyP_ok mixed c16_ok q0_ok i65 h
def d33:List (Nat×List Nat):=[(0,[0]),(0,[]),(15,[1,3,4,5,6,7,8,9,10,11,12,13,14,15,16,17])]
noncomputable def n33:FInfo:=⟨bodyOf Tryz.f33,[.cell 2 27],[27]⟩
theorem i33:finfo Tryz.prog 33 d33=some n33:=finfo_at Tryz.func33 rfl (by kernel_rfl) (by kernel_rfl)
noncomputable def c18:CallP:=orC 33 (λxs=>bodyP Tryz.prog inl c17 q0 100 d33 n33 xs) c17
theorem c18_ok:CpOK Tryz.prog c18:=orC_ok c17_ok λargs r h=>bodyP_ok mixed c17_ok q0_ok i33 h
def d19:List (Nat×List Nat):=[(0,[0]),(0,[9,10,11]),(0,[1,6,7]),(0,[]),(0,[8]),(0,[]),(0,[]),(0,[]),(0,[13,14,15]),(0,[]),(6,[4,5,16,17,18,19,20,21]),(0,[]),(0,[22]),(0,[]),(0,[3,23])]
noncomputable def n19:FInfo:=⟨bodyOf Tryz.f19,[.cell 2 27],[27]⟩
theorem i19:finfo Tryz.prog 19 d19=some n19:=finfo_at Tryz.func19 rfl (by kernel_rfl) (by kernel_rfl)
noncomputable def c19:CallP:=orC 19 (λxs=>bodyP Tryz.prog inl c18 q0 100 d19 n19 xs) c18
theorem c19_ok:CpOK Tryz.prog c19:=orC_ok c18_ok λargs r h=>bodyP_ok mixed c18_ok q0_ok i19 h
def d187:List (Nat×List Nat):=[(0,[4]),(0,[]),(0,[5]),(0,[]),(0,[7]),(0,[]),(0,[8,9,10,11,12,13,14]),(0,[]),(0,[15]),(0,[]),(0,[17,18,19,20,21,22,23,24,25]),(0,[]),(0,[0,1,26,6000004])]
noncomputable def n187:FInfo:=⟨bodyOf Tryz.f187,[.tmp 4],[131]⟩
theorem i187:finfo Tryz.prog 187 d187=some n187:=finfo_at Tryz.func187 rfl (by kernel_rfl) (by kernel_rfl)
noncomputable def q1:CallI:=ciE Tryz.prog inl c19 q0 100 187 d187 n187 q0
theorem q1_ok:CiOK Tryz.prog q1:=ciE_ok mixed c19_ok q0_ok i187 q0_ok
def d171:List (Nat×List Nat):=[(0,[2]),(0,[9,10,11]),(0,[]),(0,[]),(0,[]),(0,[25,26,27]),(0,[]),(0,[]),(0,[13,14]),(0,[]),(0,[5,15,16,17,18]),(0,[]),(0,[19]),(0,[]),(0,[21]),(0,[]),(0,[22]),(0,[]),(0,[3,23,24,3000000006]),(0,[]),(0,[0]),(0,[]),(0,[]),(0,[]),(0,[29,30]),(0,[]),(0,[8,31,32,33]),(0,[]),(0,[34]),(0,[]),(0,[6,35])]
noncomputable def n171:FInfo:=⟨bodyOf Tryz.f171,[.tmp 2],[131]⟩
theorem i171:finfo Tryz.prog 171 d171=some n171:=finfo_at Tryz.func171 rfl (by kernel_rfl) (by kernel_rfl)
noncomputable def c20:CallP:=orC 171 (λxs=>bodyP Tryz.prog inl c19 q1 100 d171 n171 xs) c19
theorem c20_ok:CpOK Tryz.prog c20:=orC_ok c19_ok λargs r h=>bodyP_ok mixed c19_ok q1_ok i171 h
def d172:List (Nat×List Nat):=[(0,[0]),(0,[]),(0,[1,2,3,4,5,6,7,8,9,10,11,12,13,14,15,16,17,18,19,20,21,22,23,24,25,26,27,28,29,30,31,32,33,34,35,36,37,38,39,40,41,42,43,44,45])]
noncomputable def n172:FInfo:=⟨bodyOf Tryz.f172,[.tmp 0],[131]⟩
theorem i172:finfo Tryz.prog 172 d172=some n172:=finfo_at Tryz.func172 rfl (by kernel_rfl) (by kernel_rfl)
noncomputable def c21:CallP:=orC 172 (λxs=>bodyP Tryz.prog inl c20 q1 100 d172 n172 xs) c20
theorem c21_ok:CpOK Tryz.prog c21:=orC_ok c20_ok λargs r h=>bodyP_ok mixed c20_ok q1_ok i172 h
def d173:List (Nat×List Nat):=[(0,[0]),(0,[]),(0,[1,2,3,4,5,6,7,8,9,10,11,12,13,14,15,16,17,18,19,20,21])]
noncomputable def n173:FInfo:=⟨bodyOf Tryz.f173,[.tmp 0],[131]⟩
theorem i173:finfo Tryz.prog 173 d173=some n173:=finfo_at Tryz.func173 rfl (by kernel_rfl) (by kernel_rfl)
noncomputable def c22:CallP:=orC 173 (λxs=>bodyP Tryz.prog inl c21 q1 100 d173 n173 xs) c21
theorem c22_ok:CpOK Tryz.prog c22:=orC_ok c21_ok λargs r h=>bodyP_ok mixed c21_ok q1_ok i173 h
def d174:List (Nat×List Nat):=[(0,[0]),(0,[]),(0,[1,2,3,4,5,6,7,8,9,10,11,12,13,14,15,16,17])]
noncomputable def n174:FInfo:=⟨bodyOf Tryz.f174,[.tmp 0],[131]⟩
theorem i174:finfo Tryz.prog 174 d174=some n174:=finfo_at Tryz.func174 rfl (by kernel_rfl) (by kernel_rfl)
noncomputable def c23:CallP:=orC 174 (λxs=>bodyP Tryz.prog inl c22 q1 100 d174 n174 xs) c22
theorem c23_ok:CpOK Tryz.prog c23:=orC_ok c22_ok λargs r h=>bodyP_ok mixed c22_ok q1_ok i174 h
def d153:List (Nat×List Nat):=[(0,[0]),(0,[]),(0,[1,2,3,4,5])]
noncomputable def n153:FInfo:=⟨bodyOf Tryz.f153,[.tmp 0],[131]⟩
theorem i153:finfo Tryz.prog 153 d153=some n153:=finfo_at Tryz.func153 rfl (by kernel_rfl) (by kernel_rfl)
noncomputable def c24:CallP:=orC 153 (λxs=>bodyP Tryz.prog inl c23 q1 100 d153 n153 xs) c23
theorem c24_ok:CpOK Tryz.prog c24:=orC_ok c23_ok λargs r h=>bodyP_ok mixed c23_ok q1_ok i153 h
def d115:List (Nat×List Nat):=[(0,[]),(0,[]),(0,[3,4,5,6,7]),(0,[]),(0,[9]),(0,[]),(0,[0,10,11,12,13,14])]
noncomputable def n115:FInfo:=⟨bodyOf Tryz.f115,[.cell 2 110],[110]⟩
theorem i115:finfo Tryz.prog 115 d115=some n115:=finfo_at Tryz.func115 rfl (by kernel_rfl) (by kernel_rfl)
noncomputable def c25:CallP:=orC 115 (λxs=>bodyP Tryz.prog inl c24 q1 100 d115 n115 xs) c24
theorem c25_ok:CpOK Tryz.prog c25:=orC_ok c24_ok λargs r h=>bodyP_ok mixed c24_ok q1_ok i115 h
def d67:List (Nat×List Nat):=[(0,[2,3,4,5]),(0,[]),(0,[0,7,8]),(0,[]),(12,[6,9,10,11,12,13,14,15,16])]
noncomputable def n67:FInfo:=⟨bodyOf Tryz.f67,[.tmp 2,.tmp 3,.tmp 4,.tmp 5],[3,3,3,3]⟩
theorem i67:finfo Tryz.prog 67 d67=some n67:=finfo_at Tryz.func67 rfl (by kernel_rfl) (by kernel_rfl)
noncomputable def k67:List AV->Option AV:=λxs=>bodyP Tryz.prog inl c25 q1 100 d67 n67 xs
def a67_0:List AV:=[.v (.int .i64 45)]
def r67_0:AV:= .tuple [.v (.int .i64 1),.v (.int .i64 1),.v (.int .i64 1),.v (.int .i64 1)]
theorem p67_0:k67 a67_0=some r67_0:=by kernel_rfl
def a67_1:List AV:=[.v (.int .i64 49)]
def r67_1:AV:= .tuple [.v (.int .i64 3),.v (.int .i64 5),.v (.int .i64 1),.v (.int .i64 1)]
theorem p67_1:k67 a67_1=some r67_1:=by kernel_rfl
def a67_2:List AV:=[.v (.int .i64 50)]
def r67_2:AV:= .tuple [.v (.int .i64 2),.v (.int .i64 2),.v (.int .i64 1),.v (.int .i64 1)]
theorem p67_2:k67 a67_2=some r67_2:=by kernel_rfl
def a67_3:List AV:=[.v (.int .i64 52)]
def r67_3:AV:= .tuple [.v (.int .i64 3),.v (.int .i64 3),.v (.int .i64 1),.v (.int .i64 1)]
theorem p67_3:k67 a67_3=some r67_3:=by kernel_rfl
def a67_4:List AV:=[.v (.int .i64 53)]
def r67_4:AV:= .tuple [.v (.int .i64 2),.v (.int .i64 3),.v (.int .i64 1),.v (.int .i64 1)]
theorem p67_4:k67 a67_4=some r67_4:=by kernel_rfl
def a67_5:List AV:=[.v (.int .i64 51)]
def r67_5:AV:= .tuple [.v (.int .i64 2),.v (.int .i64 2),.v (.int .i64 1),.v (.int .i64 1)]
theorem p67_5:k67 a67_5=some r67_5:=by kernel_rfl
noncomputable def z67:List AV->Option AV:=λxs=>if sameL (sameA 8) xs a67_0=true then some r67_0 else if sameL (sameA 8) xs a67_1=true then some r67_1 else if sameL (sameA 8) xs a67_2=true then some r67_2 else if sameL (sameA 8) xs a67_3=true then some r67_3 else if sameL (sameA 8) xs a67_4=true then some r67_4 else if sameL (sameA 8) xs a67_5=true then some r67_5 else k67 xs
noncomputable def c26:CallP:=orC 67 z67 c25
theorem k67_ok(args:List AV)(r:AV)(h:k67 args=some r):PureOK Tryz.prog 67 args r:=by
  unfold k67 at h
  exact bodyP_ok mixed c25_ok q1_ok i67 h
theorem c26_ok:CpOK Tryz.prog c26:=orC_ok c25_ok fun args r h=>by
  unfold z67 at h
  by_cases h0:sameL (sameA 8) args a67_0=true
  · rw[if_pos h0]at h;injection h with h;subst h;rw[sameL_eq (sameA_eq 8) h0];exact k67_ok _ _ p67_0
  rw[if_neg h0]at h
  by_cases h1:sameL (sameA 8) args a67_1=true
  · rw[if_pos h1]at h;injection h with h;subst h;rw[sameL_eq (sameA_eq 8) h1];exact k67_ok _ _ p67_1
  rw[if_neg h1]at h
  by_cases h2:sameL (sameA 8) args a67_2=true
  · rw[if_pos h2]at h;injection h with h;subst h;rw[sameL_eq (sameA_eq 8) h2];exact k67_ok _ _ p67_2
  rw[if_neg h2]at h
  by_cases h3:sameL (sameA 8) args a67_3=true
  · rw[if_pos h3]at h;injection h with h;subst h;rw[sameL_eq (sameA_eq 8) h3];exact k67_ok _ _ p67_3
  rw[if_neg h3]at h
  by_cases h4:sameL (sameA 8) args a67_4=true
  · rw[if_pos h4]at h;injection h with h;subst h;rw[sameL_eq (sameA_eq 8) h4];exact k67_ok _ _ p67_4
  rw[if_neg h4]at h
  by_cases h5:sameL (sameA 8) args a67_5=true
  · rw[if_pos h5]at h;injection h with h;subst h;rw[sameL_eq (sameA_eq 8) h5];exact k67_ok _ _ p67_5
  rw[if_neg h5]at h
  exact k67_ok _ _ h
def d84:List (Nat×List Nat):=[(0,[0]),(0,[]),(0,[5,6,7,8]),(0,[]),(0,[10,11,12,13,14]),(0,[]),(0,[1,2,15])]
noncomputable def n84:FInfo:=⟨bodyOf Tryz.f84,[.cell 4 62],[62]⟩
theorem i84:finfo Tryz.prog 84 d84=some n84:=finfo_at Tryz.func84 rfl (by kernel_rfl) (by kernel_rfl)
noncomputable def c27:CallP:=orC 84 (λxs=>bodyP Tryz.prog inl c26 q1 100 d84 n84 xs) c26
theorem c27_ok:CpOK Tryz.prog c27:=orC_ok c26_ok λargs r h=>bodyP_ok mixed c26_ok q1_ok i84 h
def d68:List (Nat×List Nat):=[(0,[0,4]),(0,[]),(0,[1,2,5,6,7,8,9])]
noncomputable def n68:FInfo:=⟨bodyOf Tryz.f68,[.tmp 4],[4]⟩
theorem i68:finfo Tryz.prog 68 d68=some n68:=finfo_at Tryz.func68 rfl (by kernel_rfl) (by kernel_rfl)
noncomputable def c28:CallP:=orC 68 (λxs=>bodyP Tryz.prog inl c27 q1 100 d68 n68 xs) c27
theorem c28_ok:CpOK Tryz.prog c28:=orC_ok c27_ok λargs r h=>bodyP_ok mixed c27_ok q1_ok i68 h
def d35:List (Nat×List Nat):=[(0,[0,2]),(0,[1,49,50]),(0,[8,9,10,11,12,13,14,15]),(0,[]),(0,[4,5,6,16,17,18,19,20,21,22,23,24,25,26,27,28,29,30,31,32,33,34,35,36,37,38,39,40,41,42,43,44,45,46,47]),(0,[]),(0,[]),(0,[]),(0,[3]),(0,[]),(0,[]),(0,[]),(0,[52]),(0,[]),(0,[7,53,54,55]),(0,[]),(0,[]),(0,[]),(0,[57]),(0,[]),(0,[])]
noncomputable def n35:FInfo:=⟨bodyOf Tryz.f35,[.tmp 2],[4]⟩
theorem i35:finfo Tryz.prog 35 d35=some n35:=finfo_at Tryz.func35 rfl (by kernel_rfl) (by kernel_rfl)
noncomputable def c29:CallP:=orC 35 (λxs=>bodyP Tryz.prog inl c28 q1 100 d35 n35 xs) c28
theorem c29_ok:CpOK Tryz.prog c29:=orC_ok c28_ok λargs r h=>bodyP_ok mixed c28_ok q1_ok i35 h
def d116:List (Nat×List Nat):=[(0,[2]),(0,[3,4,13,18,31,36,45,55]),(0,[0]),(0,[]),(0,[5]),(0,[]),(0,[6]),(0,[]),(0,[7]),(1,[]),(0,[8]),(0,[]),(0,[9]),(0,[]),(0,[10]),(0,[]),(0,[11]),(0,[]),(0,[12]),(0,[]),(0,[]),(0,[]),(0,[14]),(0,[]),(0,[15]),(0,[]),(0,[16]),(1,[]),(0,[17]),(0,[]),(0,[]),(0,[]),(0,[19]),(0,[]),(0,[20]),(0,[]),(0,[21]),(1,[]),(0,[22]),(0,[]),(0,[23]),(0,[]),(0,[24]),(0,[]),(0,[25]),(0,[]),(0,[26]),(0,[]),(0,[27]),(0,[]),(0,[28]),(0,[]),(0,[29]),(0,[]),(0,[30]),(0,[]),(0,[]),(0,[]),(0,[32]),(0,[]),(0,[33]),(0,[]),(0,[]),(1,[]),(0,[35]),(0,[]),(0,[]),(0,[]),(0,[37]),(0,[]),(0,[38]),(0,[]),(0,[39]),(1,[]),(0,[40]),(0,[]),(0,[41]),(0,[]),(0,[42]),(0,[]),(0,[43]),(0,[]),(0,[44]),(0,[]),(0,[]),(0,[]),(0,[46]),(0,[]),(0,[47]),(0,[]),(0,[48]),(1,[]),(0,[49]),(0,[]),(0,[50]),(0,[]),(0,[51]),(0,[]),(0,[52]),(0,[]),(0,[53]),(0,[]),(0,[54]),(0,[]),(0,[]),(0,[]),(0,[56]),(0,[]),(0,[57]),(0,[]),(0,[]),(1,[]),(0,[59]),(0,[]),(0,[]),(0,[]),(0,[61]),(0,[]),(0,[]),(0,[]),(0,[])]
noncomputable def n116:FInfo:=⟨bodyOf Tryz.f116,[.tmp 2],[9]⟩
theorem i116:finfo Tryz.prog 116 d116=some n116:=finfo_at Tryz.func116 rfl (by kernel_rfl) (by kernel_rfl)
noncomputable def c30:CallP:=orC 116 (λxs=>bodyP Tryz.prog inl c29 q1 100 d116 n116 xs) c29
theorem c30_ok:CpOK Tryz.prog c30:=orC_ok c29_ok λargs r h=>bodyP_ok mixed c29_ok q1_ok i116 h
def d117:List (Nat×List Nat):=[(0,[0,6]),(0,[1,3,12]),(0,[8,9,10,11]),(0,[]),(0,[2]),(0,[]),(0,[14]),(0,[]),(0,[15,16,17,18,19,20]),(0,[]),(0,[22]),(0,[]),(0,[23,24]),(0,[]),(0,[26]),(0,[]),(0,[27,28]),(0,[]),(0,[30]),(0,[]),(0,[31,32]),(0,[]),(0,[34]),(0,[]),(0,[35,36,37,38,39]),(0,[]),(0,[41]),(0,[]),(0,[42,43,44,45,46,47,48]),(0,[]),(0,[7,49,50,51])]
noncomputable def n117:FInfo:=⟨bodyOf Tryz.f117,[.tmp 6],[4]⟩
theorem i117:finfo Tryz.prog 117 d117=some n117:=finfo_at Tryz.func117 rfl (by kernel_rfl) (by kernel_rfl)
noncomputable def c31:CallP:=orC 117 (λxs=>bodyP Tryz.prog inl c30 q1 100 d117 n117 xs) c30
theorem c31_ok:CpOK Tryz.prog c31:=orC_ok c30_ok λargs r h=>bodyP_ok mixed c30_ok q1_ok i117 h
def d69:List (Nat×List Nat):=[(0,[0,2]),(0,[3,10,11]),(0,[5,6,7]),(0,[]),(0,[8,9]),(0,[]),(0,[]),(0,[]),(0,[13]),(0,[]),(24,[4,14,15,16,17,18,19,20,21,22,23,24,25,26,27,28,29,30,31,32,33,34,35,36]),(0,[]),(0,[]),(0,[]),(0,[38]),(0,[]),(0,[1,39,40,41,42,43,44,45,46,47,48,49,50,51,52,53])]
noncomputable def n69:FInfo:=⟨bodyOf Tryz.f69,[.tmp 2],[4]⟩
theorem i69:finfo Tryz.prog 69 d69=some n69:=finfo_at Tryz.func69 rfl (by kernel_rfl) (by kernel_rfl)
noncomputable def c32:CallP:=orC 69 (λxs=>bodyP Tryz.prog inl c31 q1 100 d69 n69 xs) c31
theorem c32_ok:CpOK Tryz.prog c32:=orC_ok c31_ok λargs r h=>bodyP_ok mixed c31_ok q1_ok i69 h
def d22:List (Nat×List Nat):=[(0,[4,5]),(0,[0,1]),(0,[7,8]),(0,[]),(0,[]),(0,[]),(0,[10,11,12,13,14,15,16]),(0,[]),(0,[17]),(0,[]),(0,[19,20,21,22,23,24,25,26]),(0,[]),(0,[27,28,29]),(0,[]),(0,[])]
noncomputable def n22:FInfo:=⟨bodyOf Tryz.f22,[.tmp 4,.tmp 5],[3,30]⟩
theorem i22:finfo Tryz.prog 22 d22=some n22:=finfo_at Tryz.func22 rfl (by kernel_rfl) (by kernel_rfl)
noncomputable def c33:CallP:=orC 22 (λxs=>bodyP Tryz.prog inl c32 q1 100 d22 n22 xs) c32
theorem c33_ok:CpOK Tryz.prog c33:=orC_ok c32_ok λargs r h=>bodyP_ok mixed c32_ok q1_ok i22 h
def d72:List (Nat×List Nat):=[(0,[0,4]),(0,[]),(0,[1,2,5,6,7,8])]
noncomputable def n72:FInfo:=⟨bodyOf Tryz.f72,[.tmp 4],[22]⟩
theorem i72:finfo Tryz.prog 72 d72=some n72:=finfo_at Tryz.func72 rfl (by kernel_rfl) (by kernel_rfl)
noncomputable def c34:CallP:=orC 72 (λxs=>bodyP Tryz.prog inl c33 q1 100 d72 n72 xs) c33
theorem c34_ok:CpOK Tryz.prog c34:=orC_ok c33_ok λargs r h=>bodyP_ok mixed c33_ok q1_ok i72 h
def d118:List (Nat×List Nat):=[(0,[0,2]),(0,[]),(0,[1,3,4,5])]
noncomputable def n118:FInfo:=⟨bodyOf Tryz.f118,[.tmp 2],[3]⟩
theorem i118:finfo Tryz.prog 118 d118=some n118:=finfo_at Tryz.func118 rfl (by kernel_rfl) (by kernel_rfl)
noncomputable def c35:CallP:=orC 118 (λxs=>bodyP Tryz.prog inl c34 q1 100 d118 n118 xs) c34
theorem c35_ok:CpOK Tryz.prog c35:=orC_ok c34_ok λargs r h=>bodyP_ok mixed c34_ok q1_ok i118 h
def d119:List (Nat×List Nat):=[(0,[4,5]),(0,[1,20,21,22]),(0,[12,13,14,15,16]),(0,[]),(0,[]),(0,[]),(0,[18,19]),(0,[]),(0,[]),(0,[]),(0,[0]),(0,[]),(0,[]),(0,[]),(0,[24,25]),(0,[]),(0,[9,26,27,28,29,30,31]),(0,[]),(0,[32]),(0,[]),(0,[34]),(0,[]),(0,[11,35,36,37,38,39,40,41]),(0,[]),(0,[10,42,43,44]),(0,[]),(0,[45]),(0,[]),(0,[7]),(0,[]),(0,[]),(0,[]),(0,[6,47])]
noncomputable def n119:FInfo:=⟨bodyOf Tryz.f119,[.tmp 4,.tmp 5],[25,30]⟩
theorem i119:finfo Tryz.prog 119 d119=some n119:=finfo_at Tryz.func119 rfl (by kernel_rfl) (by kernel_rfl)
noncomputable def c36:CallP:=orC 119 (λxs=>bodyP Tryz.prog inl c35 q1 100 d119 n119 xs) c35
theorem c36_ok:CpOK Tryz.prog c36:=orC_ok c35_ok λargs r h=>bodyP_ok mixed c35_ok q1_ok i119 h
def d70:List (Nat×List Nat):=[(0,[0,2]),(0,[1,3,4,17,58,99,131,164]),(5,[12,13,14,15]),(0,[]),(0,[16]),(0,[]),(0,[19]),(0,[]),(0,[20,21,22,23,24,25,26,27]),(0,[]),(0,[29]),(0,[]),(0,[30,31,32,33]),(0,[]),(0,[35]),(0,[]),(0,[36,37,38,39,40,41,42,43,44,45,46,47,48,49]),(0,[]),(0,[5,50,51,52,53,54,55,56,57]),(0,[]),(0,[59]),(0,[]),(0,[60]),(0,[]),(0,[61,62,63,64,65,66,67,68]),(0,[]),(0,[70]),(0,[]),(0,[71,72,73,74,75,76,77]),(0,[]),(0,[6,7,78,79,80,81,82,83,84,85,86,87,88,89,90,91,92,93,94,95,96,97,98]),(0,[]),(0,[100]),(0,[]),(0,[101]),(0,[]),(0,[102]),(0,[]),(0,[103]),(0,[]),(0,[104]),(0,[]),(0,[105]),(0,[]),(0,[106]),(0,[]),(0,[107]),(0,[]),(0,[108]),(0,[]),(0,[8,109,110,111,112,113,114,115]),(0,[]),(0,[9,116,117]),(0,[]),(0,[119]),(0,[]),(0,[120,121,122,123,124,125,126,127,128,129,130]),(0,[]),(0,[132]),(0,[]),(0,[133]),(0,[]),(0,[134]),(0,[]),(0,[135]),(0,[]),(0,[10,136,137,138,139,140,141,142]),(0,[]),(0,[11,143,144]),(0,[]),(0,[146]),(0,[]),(0,[147,148,149,150,151,152,153,154,155,156,157,158,159,160,161,162,163]),(0,[]),(0,[165]),(0,[]),(0,[166]),(0,[]),(0,[167,168,169,170,171,172,173,174]),(0,[]),(0,[]),(0,[]),(0,[]),(0,[]),(0,[]),(0,[]),(0,[]),(0,[]),(0,[]),(0,[]),(0,[]),(0,[]),(0,[]),(0,[]),(0,[]),(0,[]),(0,[]),(0,[]),(0,[]),(0,[]),(0,[]),(0,[]),(0,[]),(0,[]),(0,[]),(0,[]),(0,[]),(0,[]),(0,[]),(0,[]),(0,[]),(0,[]),(0,[]),(0,[]),(0,[]),(0,[]),(0,[]),(1,[]),(0,[]),(0,[]),(0,[]),(0,[]),(0,[]),(0,[]),(0,[]),(0,[]),(0,[]),(0,[]),(0,[]),(0,[]),(0,[]),(0,[]),(0,[]),(0,[]),(0,[]),(0,[]),(0,[]),(0,[]),(0,[]),(0,[]),(0,[]),(0,[]),(0,[]),(0,[]),(0,[]),(0,[]),(0,[]),(0,[]),(0,[]),(0,[]),(0,[]),(0,[]),(0,[]),(0,[]),(0,[]),(0,[]),(0,[]),(0,[]),(0,[]),(0,[]),(0,[]),(0,[]),(0,[]),(0,[]),(0,[]),(0,[]),(0,[]),(0,[]),(0,[]),(0,[]),(0,[]),(0,[]),(0,[]),(0,[]),(0,[]),(0,[]),(0,[]),(0,[]),(0,[]),(0,[]),(0,[]),(0,[]),(0,[]),(0,[]),(0,[]),(0,[]),(0,[]),(0,[]),(0,[]),(0,[]),(0,[]),(0,[]),(0,[]),(0,[]),(0,[]),(0,[]),(0,[]),(0,[]),(0,[]),(1,[]),(0,[]),(0,[]),(0,[]),(0,[]),(0,[]),(0,[]),(0,[]),(0,[]),(0,[]),(0,[]),(0,[]),(0,[]),(0,[]),(0,[]),(0,[]),(0,[]),(0,[]),(0,[]),(0,[]),(0,[]),(0,[]),(0,[]),(0,[]),(0,[]),(0,[]),(0,[]),(0,[]),(0,[]),(0,[]),(0,[]),(0,[]),(0,[]),(0,[]),(0,[]),(0,[]),(0,[]),(0,[]),(0,[]),(0,[]),(0,[]),(0,[]),(0,[]),(0,[]),(0,[]),(0,[]),(0,[]),(0,[]),(0,[]),(0,[]),(0,[]),(0,[]),(0,[]),(0,[]),(0,[]),(0,[]),(0,[]),(0,[]),(0,[]),(0,[]),(0,[]),(0,[]),(0,[]),(0,[]),(1,[]),(0,[]),(0,[]),(0,[]),(0,[]),(0,[]),(0,[]),(0,[]),(0,[]),(0,[]),(0,[]),(0,[]),(0,[]),(0,[]),(0,[]),(0,[]),(0,[]),(0,[]),(0,[]),(0,[]),(0,[]),(0,[]),(0,[]),(0,[]),(0,[]),(0,[]),(0,[]),(0,[]),(0,[]),(0,[]),(0,[]),(0,[]),(0,[]),(0,[]),(0,[]),(0,[]),(0,[]),(0,[]),(0,[]),(0,[]),(0,[]),(0,[]),(0,[]),(0,[]),(0,[]),(0,[]),(0,[]),(0,[]),(0,[]),(0,[]),(0,[]),(0,[]),(0,[]),(0,[]),(0,[]),(0,[]),(0,[]),(0,[]),(0,[]),(0,[]),(0,[]),(0,[]),(0,[]),(0,[]),(0,[]),(0,[]),(1,[])]
noncomputable def n70:FInfo:=⟨bodyOf Tryz.f70,[.tmp 2],[4]⟩
theorem i70:finfo Tryz.prog 70 d70=some n70:=finfo_at Tryz.func70 rfl (by kernel_rfl) (by kernel_rfl)
noncomputable def c37:CallP:=orC 70 (λxs=>bodyP Tryz.prog inl c36 q1 100 d70 n70 xs) c36
theorem c37_ok:CpOK Tryz.prog c37:=orC_ok c36_ok λargs r h=>bodyP_ok mixed c36_ok q1_ok i70 h
def d123:List (Nat×List Nat):=[(0,[0,2]),(0,[8,13]),(0,[]),(0,[1,4,6]),(0,[7]),(0,[]),(0,[]),(0,[]),(0,[10]),(0,[]),(0,[]),(0,[]),(0,[12]),(0,[]),(0,[]),(0,[]),(0,[14]),(0,[]),(0,[15]),(0,[]),(0,[16]),(0,[]),(0,[17]),(0,[]),(0,[18]),(0,[]),(0,[19]),(1,[]),(0,[20]),(0,[]),(0,[21]),(0,[]),(0,[]),(0,[]),(0,[3,22]),(0,[]),(0,[23,24]),(0,[]),(0,[26,27]),(0,[]),(0,[28,29]),(0,[]),(0,[31,32,33,34,35,36]),(0,[]),(0,[5,37])]
noncomputable def n123:FInfo:=⟨bodyOf Tryz.f123,[.tmp 2],[53]⟩
theorem i123:finfo Tryz.prog 123 d123=some n123:=finfo_at Tryz.func123 rfl (by kernel_rfl) (by kernel_rfl)
noncomputable def c38:CallP:=orC 123 (λxs=>bodyP Tryz.prog inl c37 q1 100 d123 n123 xs) c37
theorem c38_ok:CpOK Tryz.prog c38:=orC_ok c37_ok λargs r h=>bodyP_ok mixed c37_ok q1_ok i123 h
def d132:List (Nat×List Nat):=[(0,[4]),(0,[0,1,12,13]),(0,[6,7,8,9]),(0,[]),(0,[]),(0,[]),(0,[11]),(0,[]),(0,[]),(0,[]),(0,[15]),(0,[]),(9,[5,16,17,18,19,20,21,22,23]),(0,[]),(0,[]),(0,[]),(0,[25]),(0,[]),(0,[])]
noncomputable def n132:FInfo:=⟨bodyOf Tryz.f132,[.tmp 4],[4]⟩
theorem i132:finfo Tryz.prog 132 d132=some n132:=finfo_at Tryz.func132 rfl (by kernel_rfl) (by kernel_rfl)
noncomputable def c39:CallP:=orC 132 (λxs=>bodyP Tryz.prog inl c38 q1 100 d132 n132 xs) c38
theorem c39_ok:CpOK Tryz.prog c39:=orC_ok c38_ok λargs r h=>bodyP_ok mixed c38_ok q1_ok i132 h
def d126:List (Nat×List Nat):=[(0,[0,2]),(0,[]),(0,[1,3,4,5,6,7,8,9,10,11,12,13,14,15,16,17,18,19,20,21,22,23,24,25,26])]
noncomputable def n126:FInfo:=⟨bodyOf Tryz.f126,[.tmp 2],[4]⟩
theorem i126:finfo Tryz.prog 126 d126=some n126:=finfo_at Tryz.func126 rfl (by kernel_rfl) (by kernel_rfl)
noncomputable def c40:CallP:=orC 126 (λxs=>bodyP Tryz.prog inl c39 q1 100 d126 n126 xs) c39
theorem c40_ok:CpOK Tryz.prog c40:=orC_ok c39_ok λargs r h=>bodyP_ok mixed c39_ok q1_ok i126 h
def d125:List (Nat×List Nat):=[(0,[0,2]),(0,[]),(0,[1,3,4,5])]
noncomputable def n125:FInfo:=⟨bodyOf Tryz.f125,[.tmp 2],[4]⟩
theorem i125:finfo Tryz.prog 125 d125=some n125:=finfo_at Tryz.func125 rfl (by kernel_rfl) (by kernel_rfl)
noncomputable def c41:CallP:=orC 125 (λxs=>bodyP Tryz.prog inl c40 q1 100 d125 n125 xs) c40
theorem c41_ok:CpOK Tryz.prog c41:=orC_ok c40_ok λargs r h=>bodyP_ok mixed c40_ok q1_ok i125 h
def d127:List (Nat×List Nat):=[(0,[0,2]),(0,[]),(0,[1,3,4,5,6])]
noncomputable def n127:FInfo:=⟨bodyOf Tryz.f127,[.tmp 2],[4]⟩
theorem i127:finfo Tryz.prog 127 d127=some n127:=finfo_at Tryz.func127 rfl (by kernel_rfl) (by kernel_rfl)
noncomputable def c42:CallP:=orC 127 (λxs=>bodyP Tryz.prog inl c41 q1 100 d127 n127 xs) c41
theorem c42_ok:CpOK Tryz.prog c42:=orC_ok c41_ok λargs r h=>bodyP_ok mixed c41_ok q1_ok i127 h
def d130:List (Nat×List Nat):=[(0,[2]),(0,[]),(0,[0,3,4])]
noncomputable def n130:FInfo:=⟨bodyOf Tryz.f130,[.tmp 2],[4]⟩
theorem i130:finfo Tryz.prog 130 d130=some n130:=finfo_at Tryz.func130 rfl (by kernel_rfl) (by kernel_rfl)
noncomputable def c43:CallP:=orC 130 (λxs=>bodyP Tryz.prog inl c42 q1 100 d130 n130 xs) c42
theorem c43_ok:CpOK Tryz.prog c43:=orC_ok c42_ok λargs r h=>bodyP_ok mixed c42_ok q1_ok i130 h
def d155:List (Nat×List Nat):=[(0,[4]),(0,[0,1,7,8]),(0,[6]),(0,[5]),(0,[]),(0,[]),(0,[10]),(0,[]),(0,[11,12,13,14,15]),(0,[]),(0,[17]),(0,[]),(0,[18]),(0,[]),(0,[])]
noncomputable def n155:FInfo:=⟨bodyOf Tryz.f155,[.tmp 4],[3]⟩
theorem i155:finfo Tryz.prog 155 d155=some n155:=finfo_at Tryz.func155 rfl (by kernel_rfl) (by kernel_rfl)
noncomputable def c44:CallP:=orC 155 (λxs=>bodyP Tryz.prog inl c43 q1 100 d155 n155 xs) c43
theorem c44_ok:CpOK Tryz.prog c44:=orC_ok c43_ok λargs r h=>bodyP_ok mixed c43_ok q1_ok i155 h
def d129:List (Nat×List Nat):=[(0,[4]),(0,[]),(0,[0,1,5,6,7,8])]
noncomputable def n129:FInfo:=⟨bodyOf Tryz.f129,[.tmp 4],[4]⟩
theorem i129:finfo Tryz.prog 129 d129=some n129:=finfo_at Tryz.func129 rfl (by kernel_rfl) (by kernel_rfl)
noncomputable def c45:CallP:=orC 129 (λxs=>bodyP Tryz.prog inl c44 q1 100 d129 n129 xs) c44
theorem c45_ok:CpOK Tryz.prog c45:=orC_ok c44_ok λargs r h=>bodyP_ok mixed c44_ok q1_ok i129 h
def d128:List (Nat×List Nat):=[(0,[0,2]),(0,[]),(0,[1,3,4,5,6])]
noncomputable def n128:FInfo:=⟨bodyOf Tryz.f128,[.tmp 2],[4]⟩
theorem i128:finfo Tryz.prog 128 d128=some n128:=finfo_at Tryz.func128 rfl (by kernel_rfl) (by kernel_rfl)
noncomputable def c46:CallP:=orC 128 (λxs=>bodyP Tryz.prog inl c45 q1 100 d128 n128 xs) c45
theorem c46_ok:CpOK Tryz.prog c46:=orC_ok c45_ok λargs r h=>bodyP_ok mixed c45_ok q1_ok i128 h
def d154:List (Nat×List Nat):=[(0,[4]),(0,[0,1,7,8]),(0,[6]),(0,[5]),(0,[]),(0,[]),(0,[10]),(0,[]),(0,[11,12,13,14,15]),(0,[]),(0,[17]),(0,[]),(0,[18]),(0,[]),(0,[])]
noncomputable def n154:FInfo:=⟨bodyOf Tryz.f154,[.tmp 4],[3]⟩
theorem i154:finfo Tryz.prog 154 d154=some n154:=finfo_at Tryz.func154 rfl (by kernel_rfl) (by kernel_rfl)
noncomputable def c47:CallP:=orC 154 (λxs=>bodyP Tryz.prog inl c46 q1 100 d154 n154 xs) c46
theorem c47_ok:CpOK Tryz.prog c47:=orC_ok c46_ok λargs r h=>bodyP_ok mixed c46_ok q1_ok i154 h
def d124:List (Nat×List Nat):=[(0,[4]),(0,[]),(0,[0,1,5,6,7,8])]
noncomputable def n124:FInfo:=⟨bodyOf Tryz.f124,[.tmp 4],[4]⟩
theorem i124:finfo Tryz.prog 124 d124=some n124:=finfo_at Tryz.func124 rfl (by kernel_rfl) (by kernel_rfl)
noncomputable def c48:CallP:=orC 124 (λxs=>bodyP Tryz.prog inl c47 q1 100 d124 n124 xs) c47
theorem c48_ok:CpOK Tryz.prog c48:=orC_ok c47_ok λargs r h=>bodyP_ok mixed c47_ok q1_ok i124 h
def d71:List (Nat×List Nat):=[(0,[0,2]),(0,[1,3]),(0,[4,5]),(0,[]),(0,[7,8]),(0,[]),(0,[]),(0,[]),(0,[10,11]),(0,[]),(0,[]),(0,[]),(0,[13,14,15,16,17,18,19]),(0,[]),(0,[]),(0,[]),(0,[])]
noncomputable def n71:FInfo:=⟨bodyOf Tryz.f71,[.tmp 2],[30]⟩
theorem i71:finfo Tryz.prog 71 d71=some n71:=finfo_at Tryz.func71 rfl (by kernel_rfl) (by kernel_rfl)
noncomputable def c49:CallP:=orC 71 (λxs=>bodyP Tryz.prog inl c48 q1 100 d71 n71 xs) c48
theorem c49_ok:CpOK Tryz.prog c49:=orC_ok c48_ok λargs r h=>bodyP_ok mixed c48_ok q1_ok i71 h
def d36:List (Nat×List Nat):=[(0,[0,2]),(0,[8,9,10]),(0,[7]),(0,[]),(0,[]),(0,[]),(0,[12,13,14]),(0,[]),(0,[4,5,15,16,17,18,19,20]),(0,[]),(0,[3,6,21,22,23,24,25,26]),(0,[]),(0,[]),(0,[]),(0,[28]),(0,[]),(0,[30,31,32]),(0,[]),(0,[]),(0,[]),(0,[34,35,36]),(0,[]),(0,[]),(0,[]),(0,[1,37,38])]
noncomputable def n36:FInfo:=⟨bodyOf Tryz.f36,[.tmp 2],[30]⟩
theorem i36:finfo Tryz.prog 36 d36=some n36:=finfo_at Tryz.func36 rfl (by kernel_rfl) (by kernel_rfl)
noncomputable def c50:CallP:=orC 36 (λxs=>bodyP Tryz.prog inl c49 q1 100 d36 n36 xs) c49
theorem c50_ok:CpOK Tryz.prog c50:=orC_ok c49_ok λargs r h=>bodyP_ok mixed c49_ok q1_ok i36 h
def d83:List (Nat×List Nat):=[(0,[2,3]),(0,[]),(0,[0,4,5])]
noncomputable def n83:FInfo:=⟨bodyOf Tryz.f83,[.tmp 2,.tmp 3],[69,30]⟩
theorem i83:finfo Tryz.prog 83 d83=some n83:=finfo_at Tryz.func83 rfl (by kernel_rfl) (by kernel_rfl)
noncomputable def c51:CallP:=orC 83 (λxs=>bodyP Tryz.prog inl c50 q1 100 d83 n83 xs) c50
theorem c51_ok:CpOK Tryz.prog c51:=orC_ok c50_ok λargs r h=>bodyP_ok mixed c50_ok q1_ok i83 h
def d39:List (Nat×List Nat):=[(0,[2]),(0,[]),(0,[3]),(0,[]),(0,[]),(0,[]),(0,[0,5,6,7])]
noncomputable def n39:FInfo:=⟨bodyOf Tryz.f39,[.tmp 2],[22]⟩
theorem i39:finfo Tryz.prog 39 d39=some n39:=finfo_at Tryz.func39 rfl (by kernel_rfl) (by kernel_rfl)
def z39(k:List AV→Option AV):List AV→Option AV
  |[.arr 0 []]=>some (.fresh 1 0 [])
  |xs=>k xs
noncomputable def c52:CallP:=orC 39 (z39 λxs=>bodyP Tryz.prog inl c51 q1 100 d39 n39 xs) c51
theorem y39(a:Option Addr)(c:Nat):bodyP Tryz.prog inl c51 q1 100 d39 n39 [.v (.slice a 0 c)]=some (.fresh 1 0 []):=by cases a <;> kernel_rfl
theorem c52_ok:CpOK Tryz.prog c52:=orC_ok c51_ok fun args r h=>by
  unfold z39 at h
  split at h
  · injection h with h;subst h
    exact PureOK.arr0 λa c=>bodyP_ok mixed c51_ok q1_ok i39 (y39 a c)
  · exact bodyP_ok mixed c51_ok q1_ok i39 h
def d88:List (Nat×List Nat):=[(0,[4,5,6]),(0,[0,2,3]),(0,[7,8]),(0,[]),(0,[10,11,12,13]),(0,[]),(20461022922632640854861491178342245317382250595468,[14,15,16,17,18,19,20,21,22,23,24,25,26,27])]
noncomputable def n88:FInfo:=⟨bodyOf Tryz.f88,[],[]⟩
theorem i88:finfo Tryz.prog 88 d88=some n88:=finfo_at Tryz.func88 rfl (by kernel_rfl) (by kernel_rfl)
noncomputable def q2:CallI:=ciE Tryz.prog inl c52 q1 100 88 d88 n88 q1
theorem q2_ok:CiOK Tryz.prog q2:=ciE_ok mixed c52_ok q1_ok i88 q1_ok
def d156:List (Nat×List Nat):=[(0,[0,4]),(0,[16,17,18]),(0,[1000005]),(0,[]),(0,[8,9,10]),(0,[]),(0,[]),(0,[]),(0,[1,2,12,13,14,15]),(0,[]),(0,[]),(0,[]),(0,[20,21]),(0,[]),(0,[7,22,23,24,25]),(0,[]),(0,[26]),(0,[]),(0,[5,27])]
noncomputable def n156:FInfo:=⟨bodyOf Tryz.f156,[.tmp 4],[22]⟩
theorem i156:finfo Tryz.prog 156 d156=some n156:=finfo_at Tryz.func156 rfl (by kernel_rfl) (by kernel_rfl)
noncomputable def c53:CallP:=orC 156 (λxs=>bodyP Tryz.prog inl c52 q2 100 d156 n156 xs) c52
theorem c53_ok:CpOK Tryz.prog c53:=orC_ok c52_ok λargs r h=>bodyP_ok mixed c52_ok q2_ok i156 h
def d137:List (Nat×List Nat):=[(0,[0,2]),(0,[]),(11,[1,4,5,6,7,8,9,10,11,12,13]),(0,[]),(0,[3,14])]
noncomputable def n137:FInfo:=⟨bodyOf Tryz.f137,[.tmp 2],[3]⟩
theorem i137:finfo Tryz.prog 137 d137=some n137:=finfo_at Tryz.func137 rfl (by kernel_rfl) (by kernel_rfl)
noncomputable def c54:CallP:=orC 137 (λxs=>bodyP Tryz.prog inl c53 q2 100 d137 n137 xs) c53
theorem c54_ok:CpOK Tryz.prog c54:=orC_ok c53_ok λargs r h=>bodyP_ok mixed c53_ok q2_ok i137 h
def d157:List (Nat×List Nat):=[(0,[1,4]),(0,[]),(0,[0,3,5,6,7])]
noncomputable def n157:FInfo:=⟨bodyOf Tryz.f157,[.tmp 4],[4]⟩
theorem i157:finfo Tryz.prog 157 d157=some n157:=finfo_at Tryz.func157 rfl (by kernel_rfl) (by kernel_rfl)
noncomputable def c55:CallP:=orC 157 (λxs=>bodyP Tryz.prog inl c54 q2 100 d157 n157 xs) c54
theorem c55_ok:CpOK Tryz.prog c55:=orC_ok c54_ok λargs r h=>bodyP_ok mixed c54_ok q2_ok i157 h
def d158:List (Nat×List Nat):=[(0,[8]),(0,[]),(0,[9]),(0,[]),(0,[11,12,13]),(0,[]),(0,[14]),(0,[]),(0,[16,17,18]),(0,[]),(0,[19,20,21]),(0,[]),(0,[22]),(0,[]),(0,[24,25,26,27,28,29,30,31,32,33]),(0,[]),(0,[34,35,36,37,38,39]),(0,[]),(0,[40,41,42,43,44,45,46,47]),(0,[]),(0,[0,1,2,3,48,49,50,51,52,53,54,55,56])]
noncomputable def n158:FInfo:=⟨bodyOf Tryz.f158,[.tmp 8],[3]⟩
theorem i158:finfo Tryz.prog 158 d158=some n158:=finfo_at Tryz.func158 rfl (by kernel_rfl) (by kernel_rfl)
noncomputable def c56:CallP:=orC 158 (λxs=>bodyP Tryz.prog inl c55 q2 100 d158 n158 xs) c55
theorem c56_ok:CpOK Tryz.prog c56:=orC_ok c55_ok λargs r h=>bodyP_ok mixed c55_ok q2_ok i158 h
def d136:List (Nat×List Nat):=[(0,[0,2,3]),(0,[1,28,29]),(0,[16,17,18]),(0,[]),(6,[19,20,21,22]),(0,[5,6,8,83,84,85]),(6,[23,24,25,26]),(0,[]),(0,[27]),(0,[]),(0,[]),(0,[]),(0,[31]),(0,[]),(0,[32,33]),(0,[]),(0,[35,36,37,38]),(0,[]),(0,[9,39,40]),(0,[]),(0,[42,43,44]),(0,[]),(0,[45]),(0,[]),(0,[10,46,47,48,49,50,51,52]),(0,[]),(0,[11,53,54,55,56,57,58,59,60,61,62,63,64,65,66,67,68,69,70,71,72,73,74,75,76,77,78]),(0,[]),(0,[80,81,82]),(0,[]),(0,[7]),(0,[]),(0,[]),(0,[]),(0,[87,88,89]),(0,[]),(0,[13,15,90,91,92,93,94,95,96]),(0,[]),(20,[12,14,97,98,99,100,101,102,103,104,105,106,107,108,109,110,111,112,113,114,115,116]),(0,[]),(0,[117]),(0,[]),(0,[4,118,119,120,121])]
noncomputable def n136:FInfo:=⟨bodyOf Tryz.f136,[.tmp 2,.tmp 3],[69,30]⟩
theorem i136:finfo Tryz.prog 136 d136=some n136:=finfo_at Tryz.func136 rfl (by kernel_rfl) (by kernel_rfl)
noncomputable def c57:CallP:=orC 136 (λxs=>bodyP Tryz.prog inl c56 q2 100 d136 n136 xs) c56
theorem c57_ok:CpOK Tryz.prog c57:=orC_ok c56_ok λargs r h=>bodyP_ok mixed c56_ok q2_ok i136 h
def d159:List (Nat×List Nat):=[(0,[4]),(0,[]),(0,[5]),(0,[]),(0,[7]),(0,[]),(0,[8,9,10,11,12,13,14]),(0,[]),(0,[15]),(0,[]),(0,[17,18,19,20,21,22,23,24,25]),(0,[]),(0,[0,1,26,1000004])]
noncomputable def n159:FInfo:=⟨bodyOf Tryz.f159,[.tmp 4],[22]⟩
theorem i159:finfo Tryz.prog 159 d159=some n159:=finfo_at Tryz.func159 rfl (by kernel_rfl) (by kernel_rfl)
noncomputable def q3:CallI:=ciE Tryz.prog inl c57 q2 100 159 d159 n159 q2
theorem q3_ok:CiOK Tryz.prog q3:=ciE_ok mixed c57_ok q2_ok i159 q2_ok
def d138:List (Nat×List Nat):=[(0,[2]),(0,[9,10,11]),(0,[]),(0,[]),(0,[]),(0,[25,26,27]),(0,[]),(0,[]),(0,[13,14]),(0,[]),(0,[5,15,16,17,18]),(0,[]),(0,[19]),(0,[]),(0,[21]),(0,[]),(0,[22]),(0,[]),(0,[3,23,24,3000000006]),(0,[]),(0,[0]),(0,[]),(0,[]),(0,[]),(0,[29,30]),(0,[]),(0,[8,31,32,33]),(0,[]),(0,[34]),(0,[]),(0,[6,35])]
noncomputable def n138:FInfo:=⟨bodyOf Tryz.f138,[.tmp 2],[22]⟩
theorem i138:finfo Tryz.prog 138 d138=some n138:=finfo_at Tryz.func138 rfl (by kernel_rfl) (by kernel_rfl)
noncomputable def c58:CallP:=orC 138 (λxs=>(bodyP Tryz.prog inl c57 q3 100 d138 n138 xs).bind (sealR 4)) c57
theorem c58_ok:CpOK Tryz.prog c58:=orC_ok c57_ok fun args r h=>by
  obtain⟨r0,h0,h1⟩:=Option.bind_eq_some_iff.1 h
  exact(bodyP_ok mixed c57_ok q3_ok i138 h0).sealed h1
def d139:List (Nat×List Nat):=[(0,[0,4,5]),(0,[2,6,7,22,23]),(6,[9,10,11,12]),(0,[]),(0,[13,14,15,16]),(0,[]),(0,[18,19,20]),(0,[]),(0,[21]),(0,[]),(0,[]),(0,[]),(0,[25]),(0,[]),(15,[8,26,27,28,29,30,31,32,33,34,35,36,37,38,39]),(0,[]),(0,[41,42,43]),(0,[]),(0,[44]),(0,[]),(0,[1,45,46,47,48])]
noncomputable def n139:FInfo:=⟨bodyOf Tryz.f139,[.tmp 4,.tmp 5],[69,30]⟩
theorem i139:finfo Tryz.prog 139 d139=some n139:=finfo_at Tryz.func139 rfl (by kernel_rfl) (by kernel_rfl)
noncomputable def c59:CallP:=orC 139 (λxs=>bodyP Tryz.prog inl c58 q3 100 d139 n139 xs) c58
theorem c59_ok:CpOK Tryz.prog c59:=orC_ok c58_ok λargs r h=>bodyP_ok mixed c58_ok q3_ok i139 h
def d140:List (Nat×List Nat):=[(0,[0,2,3]),(0,[1,6,35,36,37]),(7,[10,11,12,13,14]),(0,[7,8,9]),(0,[15,16]),(0,[9,52]),(0,[17,18,19,20,21,22,23,24,25,26,27,28,29,30]),(0,[]),(0,[32,33,34]),(0,[]),(0,[5]),(0,[]),(0,[]),(0,[]),(0,[39,40,41]),(0,[]),(8,[42,43,44,45,46,47,48]),(0,[]),(0,[50,51]),(0,[]),(0,[53,54,55,56,57,58,59,60,61]),(0,[]),(0,[62,63,64,65,66,67,68,69]),(0,[]),(0,[70,71,72]),(0,[]),(0,[7,8,73,74,75,76,77,78,79,80,81]),(0,[]),(0,[82]),(0,[]),(0,[4,83,84,85,86]),(0,[]),(0,[]),(0,[]),(0,[]),(0,[]),(0,[]),(0,[]),(0,[]),(0,[]),(0,[]),(0,[]),(0,[]),(0,[]),(0,[]),(0,[]),(0,[]),(0,[]),(0,[]),(0,[]),(0,[]),(0,[]),(0,[]),(0,[]),(0,[]),(0,[]),(0,[]),(0,[]),(0,[]),(0,[]),(0,[]),(0,[]),(0,[]),(0,[]),(0,[]),(0,[]),(0,[]),(0,[]),(0,[]),(0,[]),(0,[]),(0,[]),(0,[]),(0,[]),(0,[]),(0,[]),(0,[]),(0,[]),(0,[]),(0,[]),(0,[]),(0,[]),(0,[]),(0,[]),(0,[]),(0,[]),(0,[]),(0,[]),(0,[]),(0,[]),(0,[]),(0,[]),(0,[]),(0,[]),(0,[]),(0,[]),(0,[]),(0,[]),(0,[]),(0,[]),(0,[]),(0,[]),(0,[]),(0,[]),(0,[]),(1,[])]
noncomputable def n140:FInfo:=⟨bodyOf Tryz.f140,[.tmp 2,.tmp 3],[69,30]⟩
theorem i140:finfo Tryz.prog 140 d140=some n140:=finfo_at Tryz.func140 rfl (by kernel_rfl) (by kernel_rfl)
noncomputable def c60:CallP:=orC 140 (λxs=>bodyP Tryz.prog inl c59 q3 100 d140 n140 xs) c59
theorem c60_ok:CpOK Tryz.prog c60:=orC_ok c59_ok λargs r h=>bodyP_ok mixed c59_ok q3_ok i140 h
def d76:List (Nat×List Nat):=[(0,[0,2,3]),(0,[4,12,115,122]),(0,[9,10]),(0,[21,22,23]),(0,[11]),(0,[6,7]),(0,[14]),(0,[]),(0,[15,16]),(0,[]),(0,[17,18]),(0,[]),(0,[19,20]),(0,[]),(0,[]),(0,[]),(0,[25,26,27]),(0,[]),(0,[28,29]),(0,[]),(0,[31,32,33,34,35,36,37]),(0,[]),(0,[38]),(0,[]),(0,[5,39,40,41,42]),(0,[]),(0,[44]),(0,[]),(0,[45,46,47,48]),(0,[]),(0,[50]),(0,[]),(0,[51,52,53,54]),(0,[]),(0,[56]),(0,[]),(0,[57,58,59,60]),(0,[]),(0,[62]),(0,[]),(0,[63,64,65,66]),(0,[]),(0,[68]),(0,[]),(0,[69,70]),(0,[]),(16,[8,71,72,73,74,75,76,77,78,79,80,81,82,83,84]),(0,[]),(0,[86]),(0,[]),(8,[87,88,89,90,91,92]),(0,[]),(0,[94]),(0,[]),(6,[95,96,97,98,99]),(0,[]),(0,[101,102,103]),(0,[]),(0,[104,105,106,107,108]),(0,[]),(0,[110]),(0,[]),(0,[111,112,113,114]),(0,[]),(0,[116]),(0,[]),(0,[117]),(0,[]),(0,[118,119,120,121]),(0,[]),(0,[123]),(0,[]),(0,[124]),(0,[]),(0,[125,126,127,128]),(0,[]),(0,[1,129,130,131,132]),(0,[]),(0,[]),(0,[]),(0,[]),(0,[]),(0,[]),(0,[]),(0,[]),(0,[]),(0,[]),(0,[]),(0,[]),(0,[]),(0,[]),(0,[]),(0,[]),(0,[]),(0,[]),(0,[]),(0,[]),(0,[]),(0,[]),(0,[]),(0,[]),(0,[]),(0,[]),(0,[]),(0,[]),(0,[]),(0,[]),(0,[]),(0,[]),(0,[]),(0,[]),(0,[]),(0,[]),(0,[]),(0,[]),(0,[]),(0,[]),(0,[]),(0,[]),(0,[]),(0,[]),(0,[]),(0,[]),(0,[]),(0,[]),(0,[]),(0,[]),(0,[]),(0,[]),(0,[]),(0,[]),(0,[]),(0,[]),(0,[]),(0,[]),(0,[]),(0,[]),(0,[]),(0,[]),(0,[]),(0,[]),(0,[]),(0,[]),(0,[]),(0,[]),(0,[]),(0,[]),(0,[]),(0,[]),(0,[]),(0,[]),(0,[]),(0,[]),(0,[]),(0,[]),(0,[]),(0,[]),(0,[]),(0,[]),(0,[]),(0,[]),(0,[]),(0,[]),(0,[]),(0,[]),(0,[]),(0,[]),(0,[]),(0,[]),(0,[]),(0,[]),(0,[]),(0,[]),(0,[]),(0,[]),(0,[]),(0,[]),(0,[]),(0,[]),(0,[]),(0,[]),(0,[]),(0,[]),(0,[]),(0,[]),(0,[]),(0,[]),(0,[]),(0,[]),(0,[]),(0,[]),(0,[]),(0,[]),(0,[]),(0,[]),(0,[]),(0,[]),(0,[]),(0,[]),(0,[]),(0,[]),(0,[]),(0,[]),(0,[]),(0,[]),(0,[]),(0,[]),(0,[]),(0,[]),(0,[]),(0,[]),(0,[]),(0,[]),(0,[]),(0,[]),(0,[]),(0,[]),(0,[]),(0,[]),(0,[]),(0,[]),(0,[]),(0,[]),(0,[]),(0,[]),(0,[]),(0,[]),(0,[]),(0,[]),(0,[]),(0,[]),(1,[]),(0,[]),(0,[]),(0,[]),(0,[]),(0,[]),(0,[]),(0,[]),(0,[]),(0,[]),(0,[]),(0,[]),(0,[]),(0,[]),(1,[])]
noncomputable def n76:FInfo:=⟨bodyOf Tryz.f76,[.tmp 2,.tmp 3],[69,30]⟩
theorem i76:finfo Tryz.prog 76 d76=some n76:=finfo_at Tryz.func76 rfl (by kernel_rfl) (by kernel_rfl)
noncomputable def c61:CallP:=orC 76 (λxs=>bodyP Tryz.prog inls c60 q3 100 d76 n76 xs) c60
theorem c61_ok:CpOK Tryz.prog c61:=orC_ok c60_ok λargs r h=>bodyP_ok mixed c60_ok q3_ok i76 h
def d37:List (Nat×List Nat):=[(0,[0,2,3]),(0,[1,5,9,10,54,78,108,115]),(0,[6,7]),(0,[]),(0,[8]),(0,[]),(0,[11]),(0,[]),(0,[12]),(0,[]),(0,[13]),(0,[]),(0,[14]),(0,[]),(0,[15]),(0,[]),(0,[16]),(0,[]),(0,[17]),(0,[]),(0,[18]),(1,[]),(0,[19]),(0,[]),(0,[20]),(0,[]),(0,[21]),(0,[]),(0,[22]),(0,[]),(0,[23]),(0,[]),(0,[24]),(0,[]),(0,[25]),(0,[]),(0,[26]),(0,[]),(0,[27]),(0,[]),(0,[28,29,30,31]),(0,[]),(0,[33]),(0,[]),(0,[34,35,36,37]),(0,[]),(0,[38]),(0,[]),(0,[40]),(0,[]),(0,[42]),(0,[]),(8,[43,44,45,46,47,48,49]),(0,[]),(0,[51,52,53]),(0,[]),(0,[55]),(0,[]),(0,[56]),(0,[]),(0,[57]),(0,[]),(0,[58]),(0,[]),(0,[59]),(0,[]),(0,[60]),(0,[]),(0,[61]),(0,[]),(0,[62]),(0,[]),(0,[63]),(0,[]),(0,[64]),(0,[]),(0,[65]),(0,[]),(0,[66]),(0,[]),(0,[67]),(0,[]),(0,[68]),(0,[]),(0,[69]),(0,[]),(0,[70]),(0,[]),(0,[71]),(0,[]),(0,[72]),(0,[]),(0,[73]),(0,[]),(0,[74,75,76,77]),(0,[]),(0,[79]),(0,[]),(0,[80]),(0,[]),(0,[81]),(0,[]),(0,[82]),(0,[]),(0,[83]),(0,[]),(0,[84]),(0,[]),(0,[85]),(1,[]),(0,[86,87,88,89]),(0,[]),(0,[91]),(0,[]),(0,[92,93,94,95]),(0,[]),(0,[97]),(0,[]),(0,[98,99,100,101]),(0,[]),(0,[103]),(0,[]),(0,[104,105,106,107]),(0,[]),(0,[109]),(0,[]),(0,[110]),(0,[]),(0,[111,112,113,114]),(0,[]),(0,[116]),(0,[]),(0,[117]),(0,[]),(0,[118]),(0,[]),(0,[119,120,121,122]),(0,[]),(0,[4,123,124,125,126]),(0,[]),(0,[]),(0,[]),(0,[]),(0,[]),(0,[]),(0,[]),(0,[]),(0,[]),(0,[]),(0,[]),(0,[]),(0,[]),(0,[]),(0,[]),(0,[]),(0,[]),(0,[]),(1,[]),(0,[]),(0,[]),(0,[]),(0,[]),(0,[]),(0,[]),(0,[]),(0,[]),(0,[]),(0,[]),(0,[]),(0,[]),(0,[]),(0,[]),(0,[]),(0,[]),(0,[]),(0,[]),(0,[]),(0,[]),(0,[]),(0,[]),(0,[]),(0,[]),(0,[]),(0,[]),(0,[]),(0,[]),(0,[]),(0,[]),(0,[]),(0,[]),(0,[]),(0,[]),(0,[]),(0,[]),(0,[]),(0,[]),(0,[]),(0,[]),(0,[]),(0,[]),(0,[]),(0,[]),(0,[]),(0,[]),(0,[]),(0,[]),(0,[]),(0,[]),(0,[]),(0,[]),(0,[]),(0,[]),(0,[]),(0,[]),(0,[]),(0,[]),(0,[]),(1,[]),(0,[]),(0,[]),(0,[]),(0,[]),(0,[]),(0,[]),(0,[]),(0,[]),(0,[]),(0,[]),(0,[]),(0,[]),(0,[]),(1,[])]
noncomputable def n37:FInfo:=⟨bodyOf Tryz.f37,[.tmp 2,.tmp 3],[69,30]⟩
theorem i37:finfo Tryz.prog 37 d37=some n37:=finfo_at Tryz.func37 rfl (by kernel_rfl) (by kernel_rfl)
noncomputable def c62:CallP:=orC 37 (λxs=>bodyP Tryz.prog inl c61 q3 100 d37 n37 xs) c61
theorem c62_ok:CpOK Tryz.prog c62:=orC_ok c61_ok λargs r h=>bodyP_ok mixed c61_ok q3_ok i37 h
def d38:List (Nat×List Nat):=[(0,[0,2]),(0,[4,5,17]),(0,[3]),(0,[]),(0,[6]),(0,[]),(0,[7]),(0,[]),(0,[8]),(0,[]),(0,[9]),(1,[]),(0,[10]),(0,[]),(0,[11]),(0,[]),(0,[12]),(0,[]),(0,[13]),(0,[]),(0,[14]),(0,[]),(0,[15]),(0,[]),(0,[16]),(0,[]),(0,[]),(0,[]),(0,[18]),(0,[]),(0,[19]),(0,[]),(0,[20]),(0,[]),(0,[21]),(1,[]),(0,[]),(0,[]),(0,[23]),(0,[]),(0,[24,25,26]),(0,[]),(0,[28]),(0,[]),(0,[29,30,31,32]),(0,[]),(0,[34]),(0,[]),(0,[35,36,37]),(0,[]),(0,[1,38,39,40])]
noncomputable def n38:FInfo:=⟨bodyOf Tryz.f38,[.tmp 2],[3]⟩
theorem i38:finfo Tryz.prog 38 d38=some n38:=finfo_at Tryz.func38 rfl (by kernel_rfl) (by kernel_rfl)
noncomputable def c63:CallP:=orC 38 (λxs=>bodyP Tryz.prog inl c62 q3 100 d38 n38 xs) c62
theorem c63_ok:CpOK Tryz.prog c63:=orC_ok c62_ok λargs r h=>bodyP_ok mixed c62_ok q3_ok i38 h
def d20:List (Nat×List Nat):=[(0,[1,8,9]),(0,[10,40,41,42]),(0,[0,2,3,5,19,20,21,22,23]),(0,[]),(0,[24,25]),(0,[]),(0,[]),(0,[]),(0,[27,28]),(0,[]),(0,[29]),(0,[]),(0,[31]),(0,[]),(0,[11,32,33,34,35,36]),(0,[]),(0,[37]),(0,[]),(0,[39]),(0,[]),(0,[13,8000014]),(0,[]),(0,[12]),(0,[]),(0,[]),(0,[]),(0,[44,45]),(0,[]),(0,[17,46,47,48,49,50]),(0,[]),(0,[18,51]),(0,[]),(0,[]),(0,[]),(0,[16,53,54,55,56,57,58,59,60]),(0,[]),(0,[61]),(0,[]),(0,[14,62])]
noncomputable def n20:FInfo:=⟨bodyOf Tryz.f20,[.tmp 8,.tmp 9],[53,30]⟩
theorem i20:finfo Tryz.prog 20 d20=some n20:=finfo_at Tryz.func20 rfl (by kernel_rfl) (by kernel_rfl)
noncomputable def k20:List AV->Option AV:=λxs=>bodyP Tryz.prog inl c63 q3 100 d20 n20 xs
def a20_0:List AV:=[.v (.int .i64 45),.agg [.v (.int .i64 0),.arr 0 [],.v (.bool false),.v (.bool false),.v (.bool false),.v (.bool false),.v (.bool false),.arr 0 [],.v (.bool false),.v (.int .u32 0),.v (.int .u32 0),.v (.int .u32 0),.v (.bool false),.v (.bool false),.v (.bool false),.v (.int .i64 0),.v (.int .i64 0),.v (.bool false),.v (.bool false),.v (.int .i64 0),.arr 0 [],.arr 0 [],.arr 0 [],.arr 0 [],.v (.int .i64 0),.v (.bool false),.v (.bool false),.v (.int .i64 0),.v (.int .i64 0),.v (.int .i64 0),.v (.bool false),.v (.int .i64 0),.arr 0 [],.arr 0 [],.arr 0 [],.arr 0 []],.arr 1 [.v (.int .i64 7),.arr 2 [.v (.int .i64 2),.v (.int .i64 3)],.v (.bool true),.v (.int .i64 7),.arr 2 [.v (.int .i64 2),.v (.int .i64 3)],.arr 0 [],.arr 6 [.v (.int .i64 1),.v (.int .i64 2),.v (.int .i64 3),.v (.int .i64 4),.v (.int .i64 5),.v (.int .i64 6)],.arr 0 []],.v (.int .i64 1)]
def r20_0:AV:= .tuple [.fresh 8 1 [.v (.int .i64 7),.arr 2 [.v (.int .i64 3),.v (.int .i64 2)],.v (.bool false),.v (.int .i64 0),.arr 0 [],.arr 0 [],.arr 0 [],.arr 0 []],.v (.int .i64 0)]
theorem p20_0:k20 a20_0=some r20_0:=by kernel_rfl
def a20_1:List AV:=[.v (.int .i64 49),.agg [.v (.int .i64 0),.arr 0 [],.v (.bool false),.v (.bool false),.v (.bool false),.v (.bool false),.v (.bool false),.arr 0 [],.v (.bool false),.v (.int .u32 0),.v (.int .u32 0),.v (.int .u32 0),.v (.bool false),.v (.bool false),.v (.bool false),.v (.int .i64 0),.v (.int .i64 0),.v (.bool false),.v (.bool false),.v (.int .i64 0),.arr 0 [],.arr 0 [],.arr 0 [],.arr 0 [],.v (.int .i64 0),.v (.bool false),.v (.bool false),.v (.int .i64 0),.v (.int .i64 0),.v (.int .i64 0),.v (.bool false),.v (.int .i64 0),.arr 0 [],.arr 0 [],.arr 0 [],.arr 0 []],.arr 5 [.v (.int .i64 7),.arr 2 [.v (.int .i64 2),.v (.int .i64 3)],.v (.bool true),.v (.int .i64 7),.arr 2 [.v (.int .i64 2),.v (.int .i64 3)],.arr 0 [],.arr 6 [.v (.int .i64 1),.v (.int .i64 2),.v (.int .i64 3),.v (.int .i64 4),.v (.int .i64 5),.v (.int .i64 6)],.arr 0 [],.v (.int .i64 7),.arr 1 [.v (.int .i64 1)],.v (.bool true),.v (.int .i64 7),.arr 1 [.v (.int .i64 1)],.arr 0 [],.arr 1 [.v (.int .i64 2)],.arr 0 [],.v (.int .i64 7),.arr 1 [.v (.int .i64 1)],.v (.bool true),.v (.int .i64 7),.arr 1 [.v (.int .i64 1)],.arr 0 [],.arr 1 [.v (.int .i64 (-4))],.arr 0 [],.v (.int .i64 7),.arr 1 [.v (.int .i64 1)],.v (.bool true),.v (.int .i64 7),.arr 1 [.v (.int .i64 1)],.arr 0 [],.arr 1 [.v (.int .i64 1)],.arr 0 [],.v (.int .i64 7),.arr 1 [.v (.int .i64 1)],.v (.bool true),.v (.int .i64 7),.arr 1 [.v (.int .i64 1)],.arr 0 [],.arr 1 [.v (.int .i64 (-1))],.arr 0 []],.v (.int .i64 1)]
def r20_1:AV:= .tuple [.fresh 8 1 [.v (.int .i64 7),.arr 2 [.v (.int .i64 2),.v (.int .i64 3)],.v (.bool false),.v (.int .i64 0),.arr 0 [],.arr 0 [],.arr 0 [],.arr 0 []],.v (.int .i64 0)]
theorem p20_1:k20 a20_1=some r20_1:=by kernel_rfl
def a20_2:List AV:=[.v (.int .i64 50),.agg [.v (.int .i64 1),.arr 0 [],.v (.bool false),.v (.bool false),.v (.bool false),.v (.bool false),.v (.bool false),.arr 0 [],.v (.bool false),.v (.int .u32 0),.v (.int .u32 0),.v (.int .u32 0),.v (.bool false),.v (.bool false),.v (.bool false),.v (.int .i64 0),.v (.int .i64 0),.v (.bool false),.v (.bool false),.v (.int .i64 0),.arr 0 [],.arr 0 [],.arr 0 [],.arr 0 [],.v (.int .i64 0),.v (.bool false),.v (.bool false),.v (.int .i64 0),.v (.int .i64 0),.v (.int .i64 0),.v (.bool false),.v (.int .i64 0),.arr 0 [],.arr 0 [],.arr 0 [],.arr 0 []],.arr 2 [.v (.int .i64 7),.arr 2 [.v (.int .i64 2),.v (.int .i64 3)],.v (.bool true),.v (.int .i64 7),.arr 2 [.v (.int .i64 2),.v (.int .i64 3)],.arr 0 [],.arr 6 [.v (.int .i64 1),.v (.int .i64 2),.v (.int .i64 3),.v (.int .i64 4),.v (.int .i64 5),.v (.int .i64 6)],.arr 0 [],.v (.int .i64 7),.arr 1 [.v (.int .i64 1)],.v (.bool true),.v (.int .i64 7),.arr 1 [.v (.int .i64 1)],.arr 0 [],.arr 1 [.v (.int .i64 3)],.arr 0 []],.v (.int .i64 1)]
def r20_2:AV:= .tuple [.fresh 8 1 [.v (.int .i64 7),.arr 2 [.v (.int .i64 2),.v (.int .i64 1)],.v (.bool false),.v (.int .i64 0),.arr 0 [],.arr 0 [],.arr 0 [],.arr 0 []],.v (.int .i64 0)]
theorem p20_2:k20 a20_2=some r20_2:=by kernel_rfl
def a20_3:List AV:=[.v (.int .i64 50),.agg [.v (.int .i64 1),.arr 0 [],.v (.bool false),.v (.bool false),.v (.bool false),.v (.bool false),.v (.bool false),.arr 0 [],.v (.bool false),.v (.int .u32 0),.v (.int .u32 0),.v (.int .u32 0),.v (.bool false),.v (.bool false),.v (.bool false),.v (.int .i64 0),.v (.int .i64 0),.v (.bool false),.v (.bool false),.v (.int .i64 0),.arr 0 [],.arr 0 [],.arr 0 [],.arr 0 [],.v (.int .i64 0),.v (.bool false),.v (.bool false),.v (.int .i64 0),.v (.int .i64 0),.v (.int .i64 0),.v (.bool false),.v (.int .i64 0),.arr 0 [],.arr 0 [],.arr 0 [],.arr 0 []],.arr 2 [.v (.int .i64 7),.arr 2 [.v (.int .i64 2),.v (.int .i64 3)],.v (.bool true),.v (.int .i64 7),.arr 2 [.v (.int .i64 2),.v (.int .i64 3)],.arr 0 [],.arr 6 [.v (.int .i64 1),.v (.int .i64 2),.v (.int .i64 3),.v (.int .i64 4),.v (.int .i64 5),.v (.int .i64 6)],.arr 0 [],.v (.int .i64 7),.arr 1 [.v (.int .i64 2)],.v (.bool true),.v (.int .i64 7),.arr 1 [.v (.int .i64 2)],.arr 0 [],.arr 2 [.v (.int .i64 (-1)),.v (.int .i64 0)],.arr 0 []],.v (.int .i64 1)]
def r20_3:AV:= .tuple [.fresh 8 1 [.v (.int .i64 7),.arr 2 [.v (.int .i64 2),.v (.int .i64 2)],.v (.bool false),.v (.int .i64 0),.arr 0 [],.arr 0 [],.arr 0 [],.arr 0 []],.v (.int .i64 0)]
theorem p20_3:k20 a20_3=some r20_3:=by kernel_rfl
def a20_4:List AV:=[.v (.int .i64 52),.agg [.v (.int .i64 0),.arr 0 [],.v (.bool false),.v (.bool false),.v (.bool false),.v (.bool false),.v (.bool false),.arr 0 [],.v (.bool false),.v (.int .u32 0),.v (.int .u32 0),.v (.int .u32 0),.v (.bool false),.v (.bool false),.v (.bool false),.v (.int .i64 0),.v (.int .i64 4),.v (.bool false),.v (.bool false),.v (.int .i64 0),.arr 0 [],.arr 0 [],.arr 0 [],.arr 0 [],.v (.int .i64 0),.v (.bool false),.v (.bool false),.v (.int .i64 0),.v (.int .i64 0),.v (.int .i64 0),.v (.bool false),.v (.int .i64 0),.arr 0 [],.arr 0 [],.arr 0 [],.arr 0 []],.arr 3 [.v (.int .i64 7),.arr 1 [.v (.int .i64 3)],.v (.bool true),.v (.int .i64 7),.arr 1 [.v (.int .i64 3)],.arr 0 [],.arr 3 [.v (.int .i64 1),.v (.int .i64 2),.v (.int .i64 3)],.arr 0 [],.v (.int .i64 7),.arr 1 [.v (.int .i64 2)],.v (.bool true),.v (.int .i64 7),.arr 1 [.v (.int .i64 2)],.arr 0 [],.arr 2 [.v (.int .i64 0),.v (.int .i64 0)],.arr 0 [],.v (.int .i64 7),.arr 1 [.v (.int .i64 2)],.v (.bool true),.v (.int .i64 7),.arr 1 [.v (.int .i64 2)],.arr 0 [],.arr 2 [.v (.int .i64 5),.v (.int .i64 7)],.arr 0 []],.v (.int .i64 1)]
def r20_4:AV:= .tuple [.fresh 8 1 [.v (.int .i64 7),.arr 1 [.v (.int .i64 3)],.v (.bool false),.v (.int .i64 0),.arr 0 [],.arr 0 [],.arr 0 [],.arr 0 []],.v (.int .i64 0)]
theorem p20_4:k20 a20_4=some r20_4:=by kernel_rfl
def a20_5:List AV:=[.v (.int .i64 53),.agg [.v (.int .i64 0),.arr 0 [],.v (.bool false),.v (.bool false),.v (.bool false),.v (.bool false),.v (.bool false),.arr 0 [],.v (.bool false),.v (.int .u32 0),.v (.int .u32 0),.v (.int .u32 0),.v (.bool false),.v (.bool false),.v (.bool false),.v (.int .i64 0),.v (.int .i64 2),.v (.bool false),.v (.bool false),.v (.int .i64 0),.arr 0 [],.arr 0 [],.arr 0 [],.arr 0 [],.v (.int .i64 0),.v (.bool false),.v (.bool false),.v (.int .i64 0),.v (.int .i64 0),.v (.int .i64 0),.v (.bool false),.v (.int .i64 0),.arr 0 [],.arr 0 [],.arr 0 [],.arr 0 []],.arr 2 [.v (.int .i64 7),.arr 1 [.v (.int .i64 3)],.v (.bool true),.v (.int .i64 7),.arr 1 [.v (.int .i64 3)],.arr 0 [],.arr 3 [.v (.int .i64 1),.v (.int .i64 2),.v (.int .i64 3)],.arr 0 [],.v (.int .i64 7),.arr 1 [.v (.int .i64 2)],.v (.bool true),.v (.int .i64 7),.arr 1 [.v (.int .i64 2)],.arr 0 [],.arr 2 [.v (.int .i64 2),.v (.int .i64 1)],.arr 0 []],.v (.int .i64 1)]
def r20_5:AV:= .tuple [.fresh 8 1 [.v (.int .i64 7),.arr 1 [.v (.int .i64 6)],.v (.bool false),.v (.int .i64 0),.arr 0 [],.arr 0 [],.arr 0 [],.arr 0 []],.v (.int .i64 0)]
theorem p20_5:k20 a20_5=some r20_5:=by kernel_rfl
noncomputable def z20:List AV->Option AV:=λxs=>if sameL (sameA 8) xs a20_0=true then some r20_0 else if sameL (sameA 8) xs a20_1=true then some r20_1 else if sameL (sameA 8) xs a20_2=true then some r20_2 else if sameL (sameA 8) xs a20_3=true then some r20_3 else if sameL (sameA 8) xs a20_4=true then some r20_4 else if sameL (sameA 8) xs a20_5=true then some r20_5 else k20 xs
noncomputable def c64:CallP:=orC 20 z20 c63
theorem k20_ok(args:List AV)(r:AV)(h:k20 args=some r):PureOK Tryz.prog 20 args r:=by
  unfold k20 at h
  exact bodyP_ok mixed c63_ok q3_ok i20 h
theorem c64_ok:CpOK Tryz.prog c64:=orC_ok c63_ok fun args r h=>by
  unfold z20 at h
  by_cases h0:sameL (sameA 8) args a20_0=true
  · rw[if_pos h0]at h;injection h with h;subst h;rw[sameL_eq (sameA_eq 8) h0];exact k20_ok _ _ p20_0
  rw[if_neg h0]at h
  by_cases h1:sameL (sameA 8) args a20_1=true
  · rw[if_pos h1]at h;injection h with h;subst h;rw[sameL_eq (sameA_eq 8) h1];exact k20_ok _ _ p20_1
  rw[if_neg h1]at h
  by_cases h2:sameL (sameA 8) args a20_2=true
  · rw[if_pos h2]at h;injection h with h;subst h;rw[sameL_eq (sameA_eq 8) h2];exact k20_ok _ _ p20_2
  rw[if_neg h2]at h
  by_cases h3:sameL (sameA 8) args a20_3=true
  · rw[if_pos h3]at h;injection h with h;subst h;rw[sameL_eq (sameA_eq 8) h3];exact k20_ok _ _ p20_3
  rw[if_neg h3]at h
  by_cases h4:sameL (sameA 8) args a20_4=true
  · rw[if_pos h4]at h;injection h with h;subst h;rw[sameL_eq (sameA_eq 8) h4];exact k20_ok _ _ p20_4
  rw[if_neg h4]at h
  by_cases h5:sameL (sameA 8) args a20_5=true
  · rw[if_pos h5]at h;injection h with h;subst h;rw[sameL_eq (sameA_eq 8) h5];exact k20_ok _ _ p20_5
  rw[if_neg h5]at h
  exact k20_ok _ _ h
def d21:List (Nat×List Nat):=[(0,[2]),(0,[7,8,9]),(0,[8000003]),(0,[]),(0,[0]),(0,[]),(0,[]),(0,[]),(0,[11,12]),(0,[]),(0,[13]),(0,[]),(0,[14,15]),(0,[]),(8,[17,18,19,20,21,22,23,24]),(0,[]),(0,[5,6,25,26,27,28]),(0,[]),(0,[29]),(0,[]),(0,[3,30])]
noncomputable def n21:FInfo:=⟨bodyOf Tryz.f21,[.tmp 2],[53]⟩
theorem i21:finfo Tryz.prog 21 d21=some n21:=finfo_at Tryz.func21 rfl (by kernel_rfl) (by kernel_rfl)
noncomputable def c65:CallP:=orC 21 (λxs=>(bodyP Tryz.prog inl c64 q3 100 d21 n21 xs).bind (sealR 4)) c64
theorem c65_ok:CpOK Tryz.prog c65:=orC_ok c64_ok fun args r h=>by
  obtain⟨r0,h0,h1⟩:=Option.bind_eq_some_iff.1 h
  exact(bodyP_ok mixed c64_ok q3_ok i21 h0).sealed h1
def d40:List (Nat×List Nat):=[(0,[4]),(0,[]),(0,[5]),(0,[]),(0,[7,8,9]),(0,[]),(0,[1,10,11,12,13,14,15]),(0,[]),(0,[]),(0,[]),(0,[0,17])]
noncomputable def n40:FInfo:=⟨bodyOf Tryz.f40,[.tmp 4],[3]⟩
theorem i40:finfo Tryz.prog 40 d40=some n40:=finfo_at Tryz.func40 rfl (by kernel_rfl) (by kernel_rfl)
noncomputable def c66:CallP:=orC 40 (λxs=>bodyP Tryz.prog inl c65 q3 100 d40 n40 xs) c65
theorem c66_ok:CpOK Tryz.prog c66:=orC_ok c65_ok λargs r h=>bodyP_ok mixed c65_ok q3_ok i40 h
def d23:List (Nat×List Nat):=[(0,[2,3]),(0,[0,14,15,16]),(0,[1000004]),(0,[]),(0,[8,9,10,11,12,13]),(0,[]),(0,[]),(0,[]),(0,[18,19]),(0,[]),(14,[6,20,21,22,23,24,25,26,27,28,29,30,31,32]),(0,[]),(0,[33]),(0,[]),(0,[]),(0,[]),(0,[7,35,36,37,38]),(0,[]),(0,[39]),(0,[]),(0,[4,40])]
noncomputable def n23:FInfo:=⟨bodyOf Tryz.f23,[.tmp 2,.tmp 3],[22,4]⟩
theorem i23:finfo Tryz.prog 23 d23=some n23:=finfo_at Tryz.func23 rfl (by kernel_rfl) (by kernel_rfl)
noncomputable def c67:CallP:=orC 23 (λxs=>bodyP Tryz.prog inl c66 q3 100 d23 n23 xs) c66
theorem c67_ok:CpOK Tryz.prog c67:=orC_ok c66_ok λargs r h=>bodyP_ok mixed c66_ok q3_ok i23 h
def d147:List (Nat×List Nat):=[(0,[2]),(0,[0,4,5]),(0,[6,7,8]),(0,[]),(0,[]),(0,[]),(0,[9,10,11]),(0,[]),(0,[12]),(0,[]),(0,[14,15]),(0,[]),(0,[16,17,18,19]),(0,[]),(0,[20,21,22,23,24,25]),(0,[]),(0,[3,26])]
noncomputable def n147:FInfo:=⟨bodyOf Tryz.f147,[.tmp 2],[22]⟩
theorem i147:finfo Tryz.prog 147 d147=some n147:=finfo_at Tryz.func147 rfl (by kernel_rfl) (by kernel_rfl)
noncomputable def c68:CallP:=orC 147 (λxs=>bodyP Tryz.prog inl c67 q3 100 d147 n147 xs) c67
theorem c68_ok:CpOK Tryz.prog c68:=orC_ok c67_ok λargs r h=>bodyP_ok mixed c67_ok q3_ok i147 h
def d85:List (Nat×List Nat):=[(0,[2,3]),(0,[]),(0,[4,6,7,8,9,10]),(0,[]),(0,[11]),(0,[]),(0,[13]),(0,[]),(0,[0,5,14,15])]
noncomputable def n85:FInfo:=⟨bodyOf Tryz.f85,[.tmp 2,.tmp 3],[22,30]⟩
theorem i85:finfo Tryz.prog 85 d85=some n85:=finfo_at Tryz.func85 rfl (by kernel_rfl) (by kernel_rfl)
noncomputable def c69:CallP:=orC 85 (λxs=>bodyP Tryz.prog inl c68 q3 100 d85 n85 xs) c68
theorem c69_ok:CpOK Tryz.prog c69:=orC_ok c68_ok λargs r h=>bodyP_ok mixed c68_ok q3_ok i85 h
def d41:List (Nat×List Nat):=[(0,[2]),(0,[]),(0,[0,4,5,6,7,8,9]),(0,[]),(0,[3,10])]
noncomputable def n41:FInfo:=⟨bodyOf Tryz.f41,[.tmp 2],[22]⟩
theorem i41:finfo Tryz.prog 41 d41=some n41:=finfo_at Tryz.func41 rfl (by kernel_rfl) (by kernel_rfl)
noncomputable def c70:CallP:=orC 41 (λxs=>bodyP Tryz.prog inl c69 q3 100 d41 n41 xs) c69
theorem c70_ok:CpOK Tryz.prog c70:=orC_ok c69_ok λargs r h=>bodyP_ok mixed c69_ok q3_ok i41 h
def d44:List (Nat×List Nat):=[(0,[4]),(0,[0,8,9,10]),(0,[]),(0,[]),(0,[1]),(0,[]),(0,[]),(0,[]),(0,[12,13,14]),(0,[]),(0,[6,7,15,16,17,18,19,20,21,22]),(0,[]),(0,[23]),(0,[]),(0,[5,24])]
noncomputable def n44:FInfo:=⟨bodyOf Tryz.f44,[.tmp 4],[3]⟩
theorem i44:finfo Tryz.prog 44 d44=some n44:=finfo_at Tryz.func44 rfl (by kernel_rfl) (by kernel_rfl)
noncomputable def c71:CallP:=orC 44 (λxs=>bodyP Tryz.prog inl c70 q3 100 d44 n44 xs) c70
theorem c71_ok:CpOK Tryz.prog c71:=orC_ok c70_ok λargs r h=>bodyP_ok mixed c70_ok q3_ok i44 h
def d98:List (Nat×List Nat):=[(0,[5]),(0,[6,26]),(0,[9,10]),(0,[]),(0,[12]),(0,[]),(0,[13,14,15,16,17]),(0,[]),(0,[18]),(0,[]),(0,[20,21]),(0,[]),(0,[1,7,22,23,24,25]),(0,[]),(0,[0]),(0,[]),(0,[27,28,29]),(0,[]),(0,[31]),(0,[]),(0,[32,33,34]),(0,[]),(0,[36]),(0,[]),(0,[37,38,39]),(0,[]),(0,[8,40])]
noncomputable def n98:FInfo:=⟨bodyOf Tryz.f98,[.cell 4 27,.tmp 5],[27,30]⟩
theorem i98:finfo Tryz.prog 98 d98=some n98:=finfo_at Tryz.func98 rfl (by kernel_rfl) (by kernel_rfl)
noncomputable def c72:CallP:=orC 98 (λxs=>bodyP Tryz.prog inl c71 q3 100 d98 n98 xs) c71
theorem c72_ok:CpOK Tryz.prog c72:=orC_ok c71_ok λargs r h=>bodyP_ok mixed c71_ok q3_ok i98 h
def d100:List (Nat×List Nat):=[(0,[8,9]),(0,[0,1,11,12,13]),(0,[2]),(0,[6,7]),(0,[]),(0,[]),(0,[15,16,17]),(0,[]),(0,[18]),(0,[]),(0,[20,21,22,23,24,25,26]),(0,[]),(0,[27])]
noncomputable def n100:FInfo:=⟨bodyOf Tryz.f100,[],[]⟩
theorem i100:finfo Tryz.prog 100 d100=some n100:=finfo_at Tryz.func100 rfl (by kernel_rfl) (by kernel_rfl)
noncomputable def q4:CallI:=ciE Tryz.prog inl c72 q3 100 100 d100 n100 q3
theorem q4_ok:CiOK Tryz.prog q4:=ciE_ok mixed c72_ok q3_ok i100 q3_ok
def d101:List (Nat×List Nat):=[(0,[8,9]),(0,[0,1,11,12,13]),(0,[2]),(0,[6,7]),(0,[]),(0,[]),(0,[15,16,17]),(0,[]),(0,[18]),(0,[]),(0,[20,21,22,23,24,25,26]),(0,[]),(0,[27])]
noncomputable def n101:FInfo:=⟨bodyOf Tryz.f101,[],[]⟩
theorem i101:finfo Tryz.prog 101 d101=some n101:=finfo_at Tryz.func101 rfl (by kernel_rfl) (by kernel_rfl)
noncomputable def q5:CallI:=ciE Tryz.prog inl c72 q4 100 101 d101 n101 q4
theorem q5_ok:CiOK Tryz.prog q5:=ciE_ok mixed c72_ok q4_ok i101 q4_ok
def d102:List (Nat×List Nat):=[(0,[8,9]),(0,[0,1,11,12,13]),(0,[2]),(0,[6,7]),(0,[]),(0,[]),(0,[15,16,17]),(0,[]),(0,[18]),(0,[]),(0,[20,21,22,23,24,25,26]),(0,[]),(0,[27])]
noncomputable def n102:FInfo:=⟨bodyOf Tryz.f102,[],[]⟩
theorem i102:finfo Tryz.prog 102 d102=some n102:=finfo_at Tryz.func102 rfl (by kernel_rfl) (by kernel_rfl)
noncomputable def q6:CallI:=ciE Tryz.prog inl c72 q5 100 102 d102 n102 q5
theorem q6_ok:CiOK Tryz.prog q6:=ciE_ok mixed c72_ok q5_ok i102 q5_ok
def d49:List (Nat×List Nat):=[(0,[0,7]),(0,[]),(0,[12,13]),(0,[]),(0,[14]),(0,[]),(0,[16,17]),(0,[]),(0,[1,8,18,19,20,21,22,23,24]),(0,[]),(0,[25]),(0,[]),(0,[27,28]),(0,[]),(0,[10,29,30,31,32,33,34,35,36,37,38,39]),(0,[]),(0,[40,41,42,43,44,45,46,47,48,49,50,51,52]),(0,[]),(0,[54]),(0,[]),(0,[11,55,56]),(0,[]),(0,[58]),(0,[]),(0,[59,60,61,62,63,64]),(0,[]),(0,[65,66,67,68,69,70]),(0,[]),(0,[2,3,71,72,73,74,75,76]),(0,[]),(0,[9,77])]
noncomputable def n49:FInfo:=⟨bodyOf Tryz.f49,[.cell 6 27,.tmp 7],[27,30]⟩
theorem i49:finfo Tryz.prog 49 d49=some n49:=finfo_at Tryz.func49 rfl (by kernel_rfl) (by kernel_rfl)
noncomputable def c73:CallP:=orC 49 (λxs=>bodyP Tryz.prog inl c72 q6 100 d49 n49 xs) c72
theorem c73_ok:CpOK Tryz.prog c73:=orC_ok c72_ok λargs r h=>bodyP_ok mixed c72_ok q6_ok i49 h
def d89:List (Nat×List Nat):=[(0,[3]),(0,[]),(0,[0,1,4,5,6])]
noncomputable def n89:FInfo:=⟨bodyOf Tryz.f89,[.tmp 3],[3]⟩
theorem i89:finfo Tryz.prog 89 d89=some n89:=finfo_at Tryz.func89 rfl (by kernel_rfl) (by kernel_rfl)
noncomputable def c74:CallP:=orC 89 (λxs=>bodyP Tryz.prog inl c73 q6 100 d89 n89 xs) c73
theorem c74_ok:CpOK Tryz.prog c74:=orC_ok c73_ok λargs r h=>bodyP_ok mixed c73_ok q6_ok i89 h
def d96:List (Nat×List Nat):=[(0,[4]),(0,[]),(6,[0,1,2,5,6,7,8,9])]
noncomputable def n96:FInfo:=⟨bodyOf Tryz.f96,[.tmp 4],[3]⟩
theorem i96:finfo Tryz.prog 96 d96=some n96:=finfo_at Tryz.func96 rfl (by kernel_rfl) (by kernel_rfl)
noncomputable def c75:CallP:=orC 96 (λxs=>bodyP Tryz.prog inl c74 q6 100 d96 n96 xs) c74
theorem c75_ok:CpOK Tryz.prog c75:=orC_ok c74_ok λargs r h=>bodyP_ok mixed c74_ok q6_ok i96 h
def d97:List (Nat×List Nat):=[(0,[7]),(0,[]),(0,[1,9,10,11,12]),(0,[]),(31,[0,2,3,4,5,8,13,14,15,16,17,18,19,20,21,22,23,24,25,26,27,28,29,30,31,32,33,34,35,36,37,38,39,40,41,42])]
noncomputable def n97:FInfo:=⟨bodyOf Tryz.f97,[.tmp 7],[3]⟩
theorem i97:finfo Tryz.prog 97 d97=some n97:=finfo_at Tryz.func97 rfl (by kernel_rfl) (by kernel_rfl)
noncomputable def c76:CallP:=orC 97 (λxs=>bodyP Tryz.prog inl c75 q6 100 d97 n97 xs) c75
theorem c76_ok:CpOK Tryz.prog c76:=orC_ok c75_ok λargs r h=>bodyP_ok mixed c75_ok q6_ok i97 h
def d107:List (Nat×List Nat):=[(0,[6]),(0,[0,1,2]),(0,[8,9,10,11,12,13,14]),(0,[]),(0,[15]),(0,[]),(0,[17,18,19,20,21,22]),(0,[]),(0,[23,24,25,26,27]),(0,[]),(0,[29,30,31,32,33,34,35,36,37,38]),(0,[]),(0,[39,40]),(0,[]),(0,[42,43,44,45,46,47]),(0,[]),(0,[48,49,50,51,52]),(0,[]),(0,[])]
noncomputable def n107:FInfo:=⟨bodyOf Tryz.f107,[.tmp 6],[3]⟩
theorem i107:finfo Tryz.prog 107 d107=some n107:=finfo_at Tryz.func107 rfl (by kernel_rfl) (by kernel_rfl)
noncomputable def c77:CallP:=orC 107 (λxs=>bodyP Tryz.prog inl c76 q6 100 d107 n107 xs) c76
theorem c77_ok:CpOK Tryz.prog c77:=orC_ok c76_ok λargs r h=>bodyP_ok mixed c76_ok q6_ok i107 h
def d106:List (Nat×List Nat):=[(0,[5]),(0,[0,1,2,3,14,15,16]),(0,[]),(0,[]),(0,[10,11,12,13]),(0,[]),(0,[]),(0,[]),(0,[18,19,20]),(0,[]),(19,[8,21,22,23,24,25,26,27,28,29,30,31,32,33,34,35,36,37,38]),(0,[]),(0,[39]),(0,[]),(0,[41]),(0,[]),(0,[7,9,42,43,44,45,46,47,48,49]),(0,[]),(0,[50]),(0,[]),(0,[6,51])]
noncomputable def n106:FInfo:=⟨bodyOf Tryz.f106,[.tmp 5],[3]⟩
theorem i106:finfo Tryz.prog 106 d106=some n106:=finfo_at Tryz.func106 rfl (by kernel_rfl) (by kernel_rfl)
noncomputable def c78:CallP:=orC 106 (λxs=>bodyP Tryz.prog inl c77 q6 100 d106 n106 xs) c77
theorem c78_ok:CpOK Tryz.prog c78:=orC_ok c77_ok λargs r h=>bodyP_ok mixed c77_ok q6_ok i106 h
def d87:List (Nat×List Nat):=[(5,[0,1,2,4,5,6,7,8,9])]
noncomputable def n87:FInfo:=⟨bodyOf Tryz.f87,[],[]⟩
theorem i87:finfo Tryz.prog 87 d87=some n87:=finfo_at Tryz.func87 rfl (by kernel_rfl) (by kernel_rfl)
noncomputable def q7:CallI:=ciE Tryz.prog inl c78 q6 100 87 d87 n87 q6
theorem q7_ok:CiOK Tryz.prog q7:=ciE_ok mixed c78_ok q6_ok i87 q6_ok
def d103:List (Nat×List Nat):=[(27,[0,1,2,3,4,6,7,8,9,10,11,12,13,14,15,16,17,18,19,20,21,22,23,24,25,26,27,28,29,30,31,32,33])]
noncomputable def n103:FInfo:=⟨bodyOf Tryz.f103,[],[]⟩
theorem i103:finfo Tryz.prog 103 d103=some n103:=finfo_at Tryz.func103 rfl (by kernel_rfl) (by kernel_rfl)
noncomputable def q8:CallI:=ciE Tryz.prog inl c78 q7 100 103 d103 n103 q7
theorem q8_ok:CiOK Tryz.prog q8:=ciE_ok mixed c78_ok q7_ok i103 q7_ok
def d86:List (Nat×List Nat):=[(0,[6]),(0,[0,1,4]),(0,[8,9,10]),(0,[5]),(0,[11,12,13]),(0,[5]),(0,[14,15,16]),(0,[]),(0,[17]),(0,[]),(0,[19,20]),(0,[]),(0,[21,22,23,24,25,26]),(0,[]),(9,[27,28,29,30,31,32,33,34]),(0,[]),(0,[36,37,38])]
noncomputable def n86:FInfo:=⟨bodyOf Tryz.f86,[],[]⟩
theorem i86:finfo Tryz.prog 86 d86=some n86:=finfo_at Tryz.func86 rfl (by kernel_rfl) (by kernel_rfl)
noncomputable def q9:CallI:=ciE Tryz.prog inl c78 q8 100 86 d86 n86 q8
theorem q9_ok:CiOK Tryz.prog q9:=ciE_ok mixed c78_ok q8_ok i86 q8_ok
def d42:List (Nat×List Nat):=[(0,[0,2]),(0,[]),(0,[4001000007]),(0,[]),(0,[5,10,11,12]),(0,[]),(0,[1,3,7,9,13,14,15,16,17,18,19]),(0,[]),(0,[8,20])]
noncomputable def n42:FInfo:=⟨bodyOf Tryz.f42,[.cell 6 27],[27]⟩
theorem i42:finfo Tryz.prog 42 d42=some n42:=finfo_at Tryz.func42 rfl (by kernel_rfl) (by kernel_rfl)
noncomputable def c79:CallP:=orC 42 (λxs=>bodyP Tryz.prog inl c78 q9 100 d42 n42 xs) c78
theorem c79_ok:CpOK Tryz.prog c79:=orC_ok c78_ok λargs r h=>bodyP_ok mixed c78_ok q9_ok i42 h
def d45:List (Nat×List Nat):=[(0,[]),(0,[5,23,24,25]),(0,[9,10,11,12,13,14]),(0,[7,8]),(0,[15,16]),(0,[]),(0,[17,18]),(0,[]),(0,[19,20,21,22]),(0,[]),(0,[]),(0,[]),(0,[27,28,29]),(0,[]),(0,[30,31,32,33]),(0,[]),(7,[35,36,37,38,39,40,41]),(0,[]),(0,[42]),(0,[]),(0,[0,1,6,43,44,45,46,47,48,49])]
noncomputable def n45:FInfo:=⟨bodyOf Tryz.f45,[.cell 4 27],[27]⟩
theorem i45:finfo Tryz.prog 45 d45=some n45:=finfo_at Tryz.func45 rfl (by kernel_rfl) (by kernel_rfl)
noncomputable def c80:CallP:=orC 45 (λxs=>bodyP Tryz.prog inl c79 q9 100 d45 n45 xs) c79
theorem c80_ok:CpOK Tryz.prog c80:=orC_ok c79_ok λargs r h=>bodyP_ok mixed c79_ok q9_ok i45 h
def d92:List (Nat×List Nat):=[(0,[6]),(0,[36,37,38]),(0,[1000007]),(0,[]),(0,[11,12,13,14,15,16,17,18,19,20,21,22,23,24,25,26,27]),(0,[2,55,56]),(0,[29,30,31,32,33,34,35]),(0,[]),(0,[]),(0,[]),(0,[40,41]),(0,[]),(0,[9,42,43,44,45]),(0,[]),(0,[46]),(0,[]),(0,[47]),(0,[]),(0,[0,1,48,49,50,51,52,53,54]),(0,[]),(0,[]),(0,[]),(0,[58]),(0,[]),(0,[10,59,60,61,62,63,64]),(0,[]),(0,[65]),(0,[]),(0,[7,66])]
noncomputable def n92:FInfo:=⟨bodyOf Tryz.f92,[.tmp 6],[22]⟩
theorem i92:finfo Tryz.prog 92 d92=some n92:=finfo_at Tryz.func92 rfl (by kernel_rfl) (by kernel_rfl)
noncomputable def c81:CallP:=orC 92 (λxs=>bodyP Tryz.prog inl c80 q9 100 d92 n92 xs) c80
theorem c81_ok:CpOK Tryz.prog c81:=orC_ok c80_ok λargs r h=>bodyP_ok mixed c80_ok q9_ok i92 h
def d95:List (Nat×List Nat):=[(0,[6]),(0,[]),(0,[7]),(0,[]),(0,[9,10,11]),(0,[]),(0,[2,12]),(0,[]),(0,[14,15,16,17,18]),(0,[]),(0,[0,1,19,20,21,22])]
noncomputable def n95:FInfo:=⟨bodyOf Tryz.f95,[.tmp 6],[3]⟩
theorem i95:finfo Tryz.prog 95 d95=some n95:=finfo_at Tryz.func95 rfl (by kernel_rfl) (by kernel_rfl)
noncomputable def c82:CallP:=orC 95 (λxs=>bodyP Tryz.prog inl c81 q9 100 d95 n95 xs) c81
theorem c82_ok:CpOK Tryz.prog c82:=orC_ok c81_ok λargs r h=>bodyP_ok mixed c81_ok q9_ok i95 h
def d47:List (Nat×List Nat):=[(0,[]),(0,[5,7,8,28,29,30]),(0,[14,15]),(0,[]),(0,[16,17]),(0,[]),(0,[18,19]),(0,[]),(0,[20,21,22,23,24,25]),(0,[]),(0,[26,27]),(0,[]),(0,[6]),(0,[]),(0,[]),(0,[]),(0,[32,33,34]),(0,[]),(0,[35,36,37,38,39,40,41]),(0,[]),(0,[42,43,44,45,46,47]),(0,[]),(21,[11,48,49,50,51,52,53,54,55,56,57,58,59,60,61,62,63,64,65,66,67,68]),(0,[]),(9,[12,13,69,70,71,72,73,74,75,76,77]),(0,[]),(0,[78]),(0,[]),(0,[0,1,9,10,79,80,81,82,83,84,85])]
noncomputable def n47:FInfo:=⟨bodyOf Tryz.f47,[.cell 4 27],[27]⟩
theorem i47:finfo Tryz.prog 47 d47=some n47:=finfo_at Tryz.func47 rfl (by kernel_rfl) (by kernel_rfl)
noncomputable def c83:CallP:=orC 47 (λxs=>bodyP Tryz.prog inl c82 q9 100 d47 n47 xs) c82
theorem c83_ok:CpOK Tryz.prog c83:=orC_ok c82_ok λargs r h=>bodyP_ok mixed c82_ok q9_ok i47 h
def d48:List (Nat×List Nat):=[(0,[0,2]),(0,[]),(0,[10,11,12,13,14,15,16,17]),(0,[]),(16,[18,19,20,21,22,23,24,25,26,27,28,29,30,31]),(0,[]),(0,[1,3,5,7,8,9,32,33,34,35,36,37,38])]
noncomputable def n48:FInfo:=⟨bodyOf Tryz.f48,[.cell 6 27],[27]⟩
theorem i48:finfo Tryz.prog 48 d48=some n48:=finfo_at Tryz.func48 rfl (by kernel_rfl) (by kernel_rfl)
noncomputable def c84:CallP:=orC 48 (λxs=>bodyP Tryz.prog inl c83 q9 100 d48 n48 xs) c83
theorem c84_ok:CpOK Tryz.prog c84:=orC_ok c83_ok λargs r h=>bodyP_ok mixed c83_ok q9_ok i48 h
def d50:List (Nat×List Nat):=[(0,[0,1,4]),(0,[]),(0,[4001000005]),(0,[]),(0,[7,8,9,10,11,12]),(0,[]),(0,[2,3,6,13,14,15,16,17,18,19,20,21]),(0,[]),(0,[5,22])]
noncomputable def n50:FInfo:=⟨bodyOf Tryz.f50,[.tmp 4],[22]⟩
theorem i50:finfo Tryz.prog 50 d50=some n50:=finfo_at Tryz.func50 rfl (by kernel_rfl) (by kernel_rfl)
noncomputable def c85:CallP:=orC 50 (λxs=>bodyP Tryz.prog inl c84 q9 100 d50 n50 xs) c84
theorem c85_ok:CpOK Tryz.prog c85:=orC_ok c84_ok λargs r h=>bodyP_ok mixed c84_ok q9_ok i50 h
def d51:List (Nat×List Nat):=[(0,[]),(0,[0,6,21,22,23]),(1766847064778384329583316500264203817565420549730204426942382828014176368,[9,10,11,12,13,14,15,16,17,18]),(0,[]),(0,[1,19,20]),(0,[7,8]),(0,[]),(0,[]),(0,[25,26,27]),(0,[]),(9,[28,29,30,31,32,33,34,35,36]),(0,[]),(0,[38,39,40]),(0,[]),(9,[41,42,43,44,45,46,47,48,49]),(0,[]),(0,[51,52,53,54,55,56,57,58,59,60,61]),(0,[]),(12,[62,63,64,65,66,67,68,69,70,71,72,73]),(0,[]),(0,[75,76,77,78,79,80,81,82,83,84,85]),(0,[]),(12,[86,87,88,89,90,91,92,93,94,95,96,97]),(0,[]),(0,[99,100,101]),(0,[]),(9,[102,103,104,105,106,107,108,109,110]),(0,[]),(0,[112,113,114,115,116,117]),(0,[]),(15,[118,119,120,121,122,123,124,125,126,127,128,129,130,131,132]),(0,[]),(0,[134,135,136,137,138,139]),(0,[]),(15,[140,141,142,143,144,145,146,147,148,149,150,151,152,153,154]),(0,[]),(0,[155]),(0,[]),(0,[5,156])]
noncomputable def n51:FInfo:=⟨bodyOf Tryz.f51,[.cell 4 27],[27]⟩
theorem i51:finfo Tryz.prog 51 d51=some n51:=finfo_at Tryz.func51 rfl (by kernel_rfl) (by kernel_rfl)
noncomputable def q10:CallI:=ciE Tryz.prog inl c85 q9 100 51 d51 n51 q9
theorem q10_ok:CiOK Tryz.prog q10:=ciE_ok mixed c85_ok q9_ok i51 q9_ok
def d52:List (Nat×List Nat):=[(0,[0]),(0,[]),(0,[8,9,10,11]),(0,[]),(0,[12,13,14,15,16,17,18,19,20,21,22,23,24,25,26]),(0,[]),(0,[28,29,30,31,32,33,34,35,36]),(0,[]),(12,[37,38,39,40,41,42,43,44,45,46,47,48]),(0,[]),(0,[49,50,51,52,53,54]),(0,[]),(0,[1,2,5,6,7,55,56,57,58])]
noncomputable def n52:FInfo:=⟨bodyOf Tryz.f52,[.cell 4 27],[27]⟩
theorem i52:finfo Tryz.prog 52 d52=some n52:=finfo_at Tryz.func52 rfl (by kernel_rfl) (by kernel_rfl)
noncomputable def c86:CallP:=orC 52 (λxs=>bodyP Tryz.prog inl c85 q10 100 d52 n52 xs) c85
theorem c86_ok:CpOK Tryz.prog c86:=orC_ok c85_ok λargs r h=>bodyP_ok mixed c85_ok q10_ok i52 h
def d25:List (Nat×List Nat):=[(0,[]),(0,[2,13,60,66,73]),(0,[10,11,12]),(0,[]),(0,[15]),(0,[]),(0,[16,17,18]),(0,[]),(0,[20]),(0,[]),(0,[21,22,23]),(0,[]),(0,[25]),(0,[]),(0,[26,27,28]),(0,[]),(0,[30]),(0,[]),(0,[31,32,33,34]),(0,[]),(0,[36]),(0,[]),(20461022922632640854861491178342245317382250597504,[8,37,38,39,40,41,42,43,44,45,46,47,48]),(0,[]),(0,[7,49]),(0,[]),(0,[51]),(0,[]),(0,[52,53,54]),(0,[]),(0,[56]),(0,[]),(0,[57,58,59]),(0,[]),(0,[61]),(0,[]),(0,[62]),(0,[]),(0,[63,64,65]),(0,[]),(0,[67]),(0,[]),(0,[68]),(0,[]),(0,[69]),(0,[]),(0,[70,71,72]),(0,[]),(0,[74]),(0,[]),(0,[75]),(0,[]),(0,[76,77,78]),(0,[]),(0,[0,79,80,81,82]),(0,[]),(0,[1,83,84]),(0,[]),(0,[9,85]),(0,[]),(0,[]),(0,[]),(0,[]),(0,[]),(0,[]),(0,[]),(0,[]),(0,[]),(0,[]),(0,[]),(0,[]),(0,[]),(0,[]),(0,[]),(0,[]),(0,[]),(0,[]),(0,[]),(0,[]),(0,[]),(0,[]),(0,[]),(0,[]),(0,[]),(0,[]),(0,[]),(0,[]),(0,[]),(0,[]),(0,[]),(0,[]),(0,[]),(0,[]),(0,[]),(0,[]),(0,[]),(0,[]),(0,[]),(0,[]),(0,[]),(0,[]),(0,[]),(0,[]),(0,[]),(0,[]),(0,[]),(0,[]),(0,[]),(0,[]),(0,[]),(0,[]),(0,[]),(0,[]),(0,[]),(0,[]),(0,[]),(0,[]),(0,[]),(0,[]),(0,[]),(0,[]),(1,[]),(0,[]),(0,[]),(0,[]),(0,[]),(0,[]),(0,[]),(0,[]),(0,[]),(0,[]),(0,[]),(0,[]),(1,[]),(0,[]),(0,[]),(0,[]),(0,[]),(0,[]),(0,[]),(0,[]),(0,[]),(0,[]),(0,[]),(0,[]),(0,[]),(0,[]),(1,[])]
noncomputable def n25:FInfo:=⟨bodyOf Tryz.f25,[.cell 6 27],[27]⟩
theorem i25:finfo Tryz.prog 25 d25=some n25:=finfo_at Tryz.func25 rfl (by kernel_rfl) (by kernel_rfl)
noncomputable def q11:CallI:=ciE Tryz.prog inl c86 q10 100 25 d25 n25 q10
theorem q11_ok:CiOK Tryz.prog q11:=ciE_ok mixed c86_ok q10_ok i25 q10_ok
def d10:List (Nat×List Nat):=[(0,[1,8,9]),(0,[25,26,27]),(0,[18,19]),(0,[]),(0,[]),(0,[]),(0,[21,22,23,24,41505000010]),(0,[]),(0,[]),(0,[]),(0,[]),(0,[]),(0,[29,30]),(0,[]),(0,[31,32]),(0,[]),(0,[34,35]),(0,[]),(0,[36]),(0,[]),(0,[38]),(0,[]),(1008,[12,13,39,40,41,42,43,44,45,46,47,48,49]),(0,[]),(0,[50]),(0,[]),(11,[2,3,51,52,53,54,55,56,57,58,59]),(0,[]),(0,[60]),(0,[]),(0,[62]),(0,[]),(0,[15,63,64,65,66,67,68,69,70,71]),(0,[]),(23384026197294446691298571404717660483291694666880,[5,72,73,74,75,76,77,78,79,80,81,82,83,84,85,86]),(0,[]),(0,[]),(0,[]),(0,[87,88,89,90,91,92,93,94,95]),(0,[]),(0,[17]),(0,[]),(0,[97,98,99,100,101]),(0,[]),(0,[17,102]),(0,[]),(0,[]),(0,[]),(0,[0,104]),(0,[]),(0,[106,107,108]),(0,[]),(0,[10,14,16,109,110,111,112,113,114,115,116])]
noncomputable def n10:FInfo:=⟨bodyOf Tryz.f10,[.tmp 8,.tmp 9],[29,30]⟩
theorem i10:finfo Tryz.prog 10 d10=some n10:=finfo_at Tryz.func10 rfl (by kernel_rfl) (by kernel_rfl)
noncomputable def k10:List AV->Option AV:=λxs=>bodyP Tryz.prog inl c86 q11 100 d10 n10 xs
def a10_0:List AV:=[.v (.int .i64 45),.agg [.v (.int .i64 0),.arr 0 [],.v (.bool false),.v (.bool false),.v (.bool false),.v (.bool false),.v (.bool false),.arr 0 [],.v (.bool false),.v (.int .u32 0),.v (.int .u32 0),.v (.int .u32 0),.v (.bool false),.v (.bool false),.v (.bool false),.v (.int .i64 0),.v (.int .i64 0),.v (.bool false),.v (.bool false),.v (.int .i64 0),.arr 0 [],.arr 0 [],.arr 0 [],.arr 0 [],.v (.int .i64 0),.v (.bool false),.v (.bool false),.v (.int .i64 0),.v (.int .i64 0),.v (.int .i64 0),.v (.bool false),.v (.int .i64 0),.arr 0 [],.arr 0 [],.arr 0 [],.arr 0 []],.arr 1 [.v (.int .i64 7),.arr 2 [.v (.int .i64 2),.v (.int .i64 3)],.arr 0 [],.arr 6 [.v (.int .i64 1),.v (.int .i64 2),.v (.int .i64 3),.v (.int .i64 4),.v (.int .i64 5),.v (.int .i64 6)],.arr 0 []],.v (.int .i64 1)]
def r10_0:AV:= .tuple [.arr 1 [.v (.int .i64 7),.arr 2 [.v (.int .i64 3),.v (.int .i64 2)],.arr 0 [],.arr 6 [.v (.int .i64 1),.v (.int .i64 4),.v (.int .i64 2),.v (.int .i64 5),.v (.int .i64 3),.v (.int .i64 6)],.arr 0 []],.v (.int .i64 0)]
theorem p10_0:k10 a10_0=some r10_0:=by kernel_rfl
def a10_1:List AV:=[.v (.int .i64 49),.agg [.v (.int .i64 0),.arr 0 [],.v (.bool false),.v (.bool false),.v (.bool false),.v (.bool false),.v (.bool false),.arr 0 [],.v (.bool false),.v (.int .u32 0),.v (.int .u32 0),.v (.int .u32 0),.v (.bool false),.v (.bool false),.v (.bool false),.v (.int .i64 0),.v (.int .i64 0),.v (.bool false),.v (.bool false),.v (.int .i64 0),.arr 0 [],.arr 0 [],.arr 0 [],.arr 0 [],.v (.int .i64 0),.v (.bool false),.v (.bool false),.v (.int .i64 0),.v (.int .i64 0),.v (.int .i64 0),.v (.bool false),.v (.int .i64 0),.arr 0 [],.arr 0 [],.arr 0 [],.arr 0 []],.arr 5 [.v (.int .i64 7),.arr 2 [.v (.int .i64 2),.v (.int .i64 3)],.arr 0 [],.arr 6 [.v (.int .i64 1),.v (.int .i64 2),.v (.int .i64 3),.v (.int .i64 4),.v (.int .i64 5),.v (.int .i64 6)],.arr 0 [],.v (.int .i64 7),.arr 1 [.v (.int .i64 1)],.arr 0 [],.arr 1 [.v (.int .i64 2)],.arr 0 [],.v (.int .i64 7),.arr 1 [.v (.int .i64 1)],.arr 0 [],.arr 1 [.v (.int .i64 (-4))],.arr 0 [],.v (.int .i64 7),.arr 1 [.v (.int .i64 1)],.arr 0 [],.arr 1 [.v (.int .i64 1)],.arr 0 [],.v (.int .i64 7),.arr 1 [.v (.int .i64 1)],.arr 0 [],.arr 1 [.v (.int .i64 (-1))],.arr 0 []],.v (.int .i64 1)]
def r10_1:AV:= .tuple [.arr 1 [.v (.int .i64 7),.arr 2 [.v (.int .i64 2),.v (.int .i64 3)],.arr 0 [],.arr 6 [.v (.int .i64 3),.v (.int .i64 2),.v (.int .i64 1),.v (.int .i64 6),.v (.int .i64 5),.v (.int .i64 4)],.arr 0 []],.v (.int .i64 0)]
theorem p10_1:k10 a10_1=some r10_1:=by kernel_rfl
def a10_2:List AV:=[.v (.int .i64 50),.agg [.v (.int .i64 1),.arr 0 [],.v (.bool false),.v (.bool false),.v (.bool false),.v (.bool false),.v (.bool false),.arr 0 [],.v (.bool false),.v (.int .u32 0),.v (.int .u32 0),.v (.int .u32 0),.v (.bool false),.v (.bool false),.v (.bool false),.v (.int .i64 0),.v (.int .i64 0),.v (.bool false),.v (.bool false),.v (.int .i64 0),.arr 0 [],.arr 0 [],.arr 0 [],.arr 0 [],.v (.int .i64 0),.v (.bool false),.v (.bool false),.v (.int .i64 0),.v (.int .i64 0),.v (.int .i64 0),.v (.bool false),.v (.int .i64 0),.arr 0 [],.arr 0 [],.arr 0 [],.arr 0 []],.arr 2 [.v (.int .i64 7),.arr 2 [.v (.int .i64 2),.v (.int .i64 3)],.arr 0 [],.arr 6 [.v (.int .i64 1),.v (.int .i64 2),.v (.int .i64 3),.v (.int .i64 4),.v (.int .i64 5),.v (.int .i64 6)],.arr 0 [],.v (.int .i64 7),.arr 1 [.v (.int .i64 1)],.arr 0 [],.arr 1 [.v (.int .i64 3)],.arr 0 []],.v (.int .i64 1)]
def r10_2:AV:= .tuple [.fresh 5 0 [],.v (.int .i64 11)]
theorem p10_2:k10 a10_2=some r10_2:=by kernel_rfl
def a10_3:List AV:=[.v (.int .i64 50),.agg [.v (.int .i64 1),.arr 0 [],.v (.bool false),.v (.bool false),.v (.bool false),.v (.bool false),.v (.bool false),.arr 0 [],.v (.bool false),.v (.int .u32 0),.v (.int .u32 0),.v (.int .u32 0),.v (.bool false),.v (.bool false),.v (.bool false),.v (.int .i64 0),.v (.int .i64 0),.v (.bool false),.v (.bool false),.v (.int .i64 0),.arr 0 [],.arr 0 [],.arr 0 [],.arr 0 [],.v (.int .i64 0),.v (.bool false),.v (.bool false),.v (.int .i64 0),.v (.int .i64 0),.v (.int .i64 0),.v (.bool false),.v (.int .i64 0),.arr 0 [],.arr 0 [],.arr 0 [],.arr 0 []],.arr 2 [.v (.int .i64 7),.arr 2 [.v (.int .i64 2),.v (.int .i64 3)],.arr 0 [],.arr 6 [.v (.int .i64 1),.v (.int .i64 2),.v (.int .i64 3),.v (.int .i64 4),.v (.int .i64 5),.v (.int .i64 6)],.arr 0 [],.v (.int .i64 7),.arr 1 [.v (.int .i64 2)],.arr 0 [],.arr 2 [.v (.int .i64 (-1)),.v (.int .i64 0)],.arr 0 []],.v (.int .i64 1)]
def r10_3:AV:= .tuple [.arr 1 [.v (.int .i64 7),.arr 2 [.v (.int .i64 2),.v (.int .i64 2)],.arr 0 [],.arr 4 [.v (.int .i64 3),.v (.int .i64 1),.v (.int .i64 6),.v (.int .i64 4)],.arr 0 []],.v (.int .i64 0)]
theorem p10_3:k10 a10_3=some r10_3:=by kernel_rfl
def a10_4:List AV:=[.v (.int .i64 52),.agg [.v (.int .i64 0),.arr 0 [],.v (.bool false),.v (.bool false),.v (.bool false),.v (.bool false),.v (.bool false),.arr 0 [],.v (.bool false),.v (.int .u32 0),.v (.int .u32 0),.v (.int .u32 0),.v (.bool false),.v (.bool false),.v (.bool false),.v (.int .i64 0),.v (.int .i64 4),.v (.bool false),.v (.bool false),.v (.int .i64 0),.arr 0 [],.arr 0 [],.arr 0 [],.arr 0 [],.v (.int .i64 0),.v (.bool false),.v (.bool false),.v (.int .i64 0),.v (.int .i64 0),.v (.int .i64 0),.v (.bool false),.v (.int .i64 0),.arr 0 [],.arr 0 [],.arr 0 [],.arr 0 []],.arr 3 [.v (.int .i64 7),.arr 1 [.v (.int .i64 3)],.arr 0 [],.arr 3 [.v (.int .i64 1),.v (.int .i64 2),.v (.int .i64 3)],.arr 0 [],.v (.int .i64 7),.arr 1 [.v (.int .i64 2)],.arr 0 [],.arr 2 [.v (.int .i64 0),.v (.int .i64 0)],.arr 0 [],.v (.int .i64 7),.arr 1 [.v (.int .i64 2)],.arr 0 [],.arr 2 [.v (.int .i64 5),.v (.int .i64 7)],.arr 0 []],.v (.int .i64 1)]
def r10_4:AV:= .tuple [.arr 1 [.v (.int .i64 7),.arr 1 [.v (.int .i64 3)],.arr 0 [],.arr 3 [.v (.int .i64 13),.v (.int .i64 2),.v (.int .i64 3)],.arr 0 []],.v (.int .i64 0)]
theorem p10_4:k10 a10_4=some r10_4:=by kernel_rfl
def a10_5:List AV:=[.v (.int .i64 53),.agg [.v (.int .i64 0),.arr 0 [],.v (.bool false),.v (.bool false),.v (.bool false),.v (.bool false),.v (.bool false),.arr 0 [],.v (.bool false),.v (.int .u32 0),.v (.int .u32 0),.v (.int .u32 0),.v (.bool false),.v (.bool false),.v (.bool false),.v (.int .i64 0),.v (.int .i64 2),.v (.bool false),.v (.bool false),.v (.int .i64 0),.arr 0 [],.arr 0 [],.arr 0 [],.arr 0 [],.v (.int .i64 0),.v (.bool false),.v (.bool false),.v (.int .i64 0),.v (.int .i64 0),.v (.int .i64 0),.v (.bool false),.v (.int .i64 0),.arr 0 [],.arr 0 [],.arr 0 [],.arr 0 []],.arr 2 [.v (.int .i64 7),.arr 1 [.v (.int .i64 3)],.arr 0 [],.arr 3 [.v (.int .i64 1),.v (.int .i64 2),.v (.int .i64 3)],.arr 0 [],.v (.int .i64 7),.arr 1 [.v (.int .i64 2)],.arr 0 [],.arr 2 [.v (.int .i64 2),.v (.int .i64 1)],.arr 0 []],.v (.int .i64 1)]
def r10_5:AV:= .tuple [.arr 1 [.v (.int .i64 7),.arr 1 [.v (.int .i64 6)],.arr 0 [],.arr 6 [.v (.int .i64 3),.v (.int .i64 2),.v (.int .i64 1),.v (.int .i64 2),.v (.int .i64 3),.v (.int .i64 2)],.arr 0 []],.v (.int .i64 0)]
theorem p10_5:k10 a10_5=some r10_5:=by kernel_rfl
noncomputable def z10:List AV->Option AV:=λxs=>if sameL (sameA 8) xs a10_0=true then some r10_0 else if sameL (sameA 8) xs a10_1=true then some r10_1 else if sameL (sameA 8) xs a10_2=true then some r10_2 else if sameL (sameA 8) xs a10_3=true then some r10_3 else if sameL (sameA 8) xs a10_4=true then some r10_4 else if sameL (sameA 8) xs a10_5=true then some r10_5 else k10 xs
noncomputable def c87:CallP:=orC 10 z10 c86
theorem k10_ok(args:List AV)(r:AV)(h:k10 args=some r):PureOK Tryz.prog 10 args r:=by
  unfold k10 at h
  exact bodyP_ok mixed c86_ok q11_ok i10 h
theorem c87_ok:CpOK Tryz.prog c87:=orC_ok c86_ok fun args r h=>by
  unfold z10 at h
  by_cases h0:sameL (sameA 8) args a10_0=true
  · rw[if_pos h0]at h;injection h with h;subst h;rw[sameL_eq (sameA_eq 8) h0];exact k10_ok _ _ p10_0
  rw[if_neg h0]at h
  by_cases h1:sameL (sameA 8) args a10_1=true
  · rw[if_pos h1]at h;injection h with h;subst h;rw[sameL_eq (sameA_eq 8) h1];exact k10_ok _ _ p10_1
  rw[if_neg h1]at h
  by_cases h2:sameL (sameA 8) args a10_2=true
  · rw[if_pos h2]at h;injection h with h;subst h;rw[sameL_eq (sameA_eq 8) h2];exact k10_ok _ _ p10_2
  rw[if_neg h2]at h
  by_cases h3:sameL (sameA 8) args a10_3=true
  · rw[if_pos h3]at h;injection h with h;subst h;rw[sameL_eq (sameA_eq 8) h3];exact k10_ok _ _ p10_3
  rw[if_neg h3]at h
  by_cases h4:sameL (sameA 8) args a10_4=true
  · rw[if_pos h4]at h;injection h with h;subst h;rw[sameL_eq (sameA_eq 8) h4];exact k10_ok _ _ p10_4
  rw[if_neg h4]at h
  by_cases h5:sameL (sameA 8) args a10_5=true
  · rw[if_pos h5]at h;injection h with h;subst h;rw[sameL_eq (sameA_eq 8) h5];exact k10_ok _ _ p10_5
  rw[if_neg h5]at h
  exact k10_ok _ _ h
def d13:List (Nat×List Nat):=[(0,[]),(0,[]),(0,[0,3,4,5,6,7])]
noncomputable def n13:FInfo:=⟨bodyOf Tryz.f13,[.cell 2 27],[27]⟩
theorem i13:finfo Tryz.prog 13 d13=some n13:=finfo_at Tryz.func13 rfl (by kernel_rfl) (by kernel_rfl)
noncomputable def c88:CallP:=orC 13 (λxs=>(bodyP Tryz.prog inl c87 q11 100 d13 n13 xs).bind (sealR 4)) c87
theorem c88_ok:CpOK Tryz.prog c88:=orC_ok c87_ok fun args r h=>by
  obtain⟨r0,h0,h1⟩:=Option.bind_eq_some_iff.1 h
  exact(bodyP_ok mixed c87_ok q11_ok i13 h0).sealed h1
def d16:List (Nat×List Nat):=[(0,[6]),(0,[0,2,7]),(0,[1,8,9,10,11,12,13,14,15,16,17,18,19,20,21,22,23]),(0,[]),(0,[]),(0,[]),(0,[]),(0,[]),(0,[25,26,27]),(0,[]),(0,[29,30]),(0,[]),(12,[31,32,33,34,35,36,37,38,39,40,41]),(0,[]),(0,[]),(0,[]),(0,[])]
noncomputable def n16:FInfo:=⟨bodyOf Tryz.f16,[.tmp 6],[4]⟩
theorem i16:finfo Tryz.prog 16 d16=some n16:=finfo_at Tryz.func16 rfl (by kernel_rfl) (by kernel_rfl)
noncomputable def c89:CallP:=orC 16 (λxs=>bodyP Tryz.prog inl c88 q11 100 d16 n16 xs) c88
theorem c89_ok:CpOK Tryz.prog c89:=orC_ok c88_ok λargs r h=>bodyP_ok mixed c88_ok q11_ok i16 h
def d9:List (Nat×List Nat):=[(0,[0]),(0,[]),(0,[14,15,16]),(0,[]),(0,[17,18,19,20,21,22,23,5000000001,6000000001,7000000001,8000000001]),(0,[]),(17,[24,25,26,27,28,29,30,31,32,33,34,35,36,37,38]),(0,[]),(11,[39,40,41,42,43,44,45,46,47]),(0,[]),(11,[1,8,48,49,50,51,52,53,54,55,56]),(0,[]),(0,[57,58,59,60,61,62,63,64,65,66]),(0,[]),(0,[67,68,69,70,71,72,73,74,75,76,77,78]),(0,[]),(0,[2,3,4,5,6,7,9,10,11,12,13,79,80,81,82,83,84,85,86,87,88,89,90,91,92,93,94,95,96,97,98,99,100,101,102,103,104,105,106,107,108,109,110])]
noncomputable def n9:FInfo:=⟨bodyOf Tryz.f9,[.tmp 0],[4]⟩
theorem i9:finfo Tryz.prog 9 d9=some n9:=finfo_at Tryz.func9 rfl (by kernel_rfl) (by kernel_rfl)
noncomputable def c90:CallP:=orC 9 (λxs=>bodyP Tryz.prog inls c89 q11 100 d9 n9 xs) c89
theorem c90_ok:CpOK Tryz.prog c90:=orC_ok c89_ok λargs r h=>bodyP_ok mixed c89_ok q11_ok i9 h
theorem aw9:c90 9 []=some (.v (.bool true)):=by kernel_rfl
end Aw
theorem awake9:PureOK Tryz.prog 9 [] (.v (.bool true)):=Aw.c90_ok 9 [] _ Aw.aw9
theorem closed67_45:PureOK Tryz.prog 67 [.v (.int .i64 45)] (.tuple [.v (.int .i64 1),.v (.int .i64 1),.v (.int .i64 1),.v (.int .i64 1)]):=Aw.k67_ok _ _ Aw.p67_0
theorem closed67_49:PureOK Tryz.prog 67 [.v (.int .i64 49)] (.tuple [.v (.int .i64 3),.v (.int .i64 5),.v (.int .i64 1),.v (.int .i64 1)]):=Aw.k67_ok _ _ Aw.p67_1
theorem closed67_50:PureOK Tryz.prog 67 [.v (.int .i64 50)] (.tuple [.v (.int .i64 2),.v (.int .i64 2),.v (.int .i64 1),.v (.int .i64 1)]):=Aw.k67_ok _ _ Aw.p67_2
theorem closed67_52:PureOK Tryz.prog 67 [.v (.int .i64 52)] (.tuple [.v (.int .i64 3),.v (.int .i64 3),.v (.int .i64 1),.v (.int .i64 1)]):=Aw.k67_ok _ _ Aw.p67_3
theorem closed67_53:PureOK Tryz.prog 67 [.v (.int .i64 53)] (.tuple [.v (.int .i64 2),.v (.int .i64 3),.v (.int .i64 1),.v (.int .i64 1)]):=Aw.k67_ok _ _ Aw.p67_4
theorem closed67_51:PureOK Tryz.prog 67 [.v (.int .i64 51)] (.tuple [.v (.int .i64 2),.v (.int .i64 2),.v (.int .i64 1),.v (.int .i64 1)]):=Aw.k67_ok _ _ Aw.p67_5
end Go.Av
