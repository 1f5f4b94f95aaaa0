/- The documents' examples, reckoned by the interpreter itself. Made by a program of mine. Conditions: none. -/
import Derived.Test.YtebfneaimafcoaaGreatLt
import Derived.Test.YtebfneaimafcoaaGreatProg
set_option linter.unusedVariables false
set_option linter.defProp false
set_option maxRecDepth 100000
open Go Go.Proofs
namespace Go.Av
namespace Aw
def bodyOf(f:Func):Code:=f.body.getD .skip
theorem mixed:Tryz.prog.follows .mixedOrders=true:=by kernel_rfl
def inl:Cfg:=inlC [28,29,30,31,32,33,47,169,200,220]
def inls:Cfg:=⟨inl.inl,λ_=>[(0,[])]⟩
def c0:CallP:=noP
def q0:CallI:=noI
theorem c0_ok:CpOK Tryz.prog c0:=noP_ok
theorem q0_ok:CiOK Tryz.prog q0:=noI_ok
def d68:List (Nat×List Nat):=[(0,[]),(0,[3,4]),(0,[6,7,8,9]),(0,[]),(0,[10,11,12]),(0,[]),(0,[0,13,14,15,16]),(0,[]),(0,[17,18,19,20,21,22]),(0,[]),(0,[24,25]),(0,[]),(0,[26,27,28]),(0,[]),(0,[29,30,31]),(0,[]),(0,[33,34]),(0,[]),(0,[35,36,37]),(0,[]),(0,[5,38])]
noncomputable def n68:FInfo:=⟨bodyOf Tryz.f68,[.cell 2 91],[91]⟩
theorem i68:finfo Tryz.prog 68 d68=some n68:=finfo_at Tryz.func68 rfl (by kernel_rfl) (by kernel_rfl)
noncomputable def c1:CallP:=orC 68 (λxs=>bodyP Tryz.prog inl c0 q0 100 d68 n68 xs) c0
theorem c1_ok:CpOK Tryz.prog c1:=orC_ok c0_ok λargs r h=>bodyP_ok mixed c0_ok q0_ok i68 h
def d139:List (Nat×List Nat):=[(0,[2]),(0,[]),(0,[0]),(0,[]),(0,[]),(0,[]),(0,[])]
noncomputable def n139:FInfo:=⟨bodyOf Tryz.f139,[.tmp 2],[24]⟩
theorem i139:finfo Tryz.prog 139 d139=some n139:=finfo_at Tryz.func139 rfl (by kernel_rfl) (by kernel_rfl)
noncomputable def c2:CallP:=orC 139 (λxs=>bodyP Tryz.prog inl c1 q0 100 d139 n139 xs) c1
theorem c2_ok:CpOK Tryz.prog c2:=orC_ok c1_ok λargs r h=>bodyP_ok mixed c1_ok q0_ok i139 h
def d69:List (Nat×List Nat):=[(0,[2]),(0,[]),(0,[0,3,4,5])]
noncomputable def n69:FInfo:=⟨bodyOf Tryz.f69,[.tmp 2],[24]⟩
theorem i69:finfo Tryz.prog 69 d69=some n69:=finfo_at Tryz.func69 rfl (by kernel_rfl) (by kernel_rfl)
noncomputable def c3:CallP:=orC 69 (λxs=>bodyP Tryz.prog inl c2 q0 100 d69 n69 xs) c2
theorem c3_ok:CpOK Tryz.prog c3:=orC_ok c2_ok λargs r h=>bodyP_ok mixed c2_ok q0_ok i69 h
def d140:List (Nat×List Nat):=[(0,[]),(0,[]),(0,[3]),(0,[]),(0,[5,6]),(0,[]),(0,[]),(0,[]),(0,[7]),(0,[]),(0,[9,10]),(0,[]),(0,[11,12]),(0,[]),(0,[13]),(0,[]),(0,[15,16]),(0,[]),(0,[17,18]),(0,[]),(0,[0,19,20,21,22,23,24])]
noncomputable def n140:FInfo:=⟨bodyOf Tryz.f140,[.tmp 2],[3]⟩
theorem i140:finfo Tryz.prog 140 d140=some n140:=finfo_at Tryz.func140 rfl (by kernel_rfl) (by kernel_rfl)
noncomputable def c4:CallP:=orC 140 (λxs=>bodyP Tryz.prog inl c3 q0 100 d140 n140 xs) c3
theorem c4_ok:CpOK Tryz.prog c4:=orC_ok c3_ok λargs r h=>bodyP_ok mixed c3_ok q0_ok i140 h
def d70:List (Nat×List Nat):=[(0,[10]),(0,[]),(0,[21,22]),(0,[3,4,11]),(0,[24,25,26,27,28,29]),(0,[14,15,16,99,111]),(0,[30,31]),(0,[]),(0,[33,34,35,36,37,38]),(0,[]),(0,[39,40,41]),(0,[]),(0,[43,44]),(0,[]),(0,[45,46,47]),(0,[]),(0,[48,49,50,51,52]),(0,[]),(0,[]),(0,[]),(0,[53]),(0,[]),(0,[54,55,56]),(0,[]),(0,[57,58,59,60,61]),(0,[]),(0,[62,63,64]),(0,[]),(0,[65,66,67,68,69,70,71,72,73,74,75]),(0,[]),(0,[18,76,77,78,79,80,81,82]),(0,[]),(0,[17,83,84,85,86,87]),(0,[]),(0,[89,90]),(0,[]),(0,[91,92,93,94]),(0,[]),(0,[96,97,98]),(0,[]),(0,[]),(0,[]),(0,[]),(0,[]),(0,[100,101,102,103,104,105,106,107]),(0,[]),(0,[109,110]),(0,[]),(0,[112]),(0,[]),(0,[113]),(0,[]),(0,[114,115,116,117,118]),(0,[]),(0,[120,121]),(0,[]),(0,[2,12,122,123,124]),(0,[]),(0,[125]),(0,[]),(0,[127,128]),(0,[]),(0,[129]),(0,[]),(0,[131,132,133]),(0,[]),(0,[13,19,134,135,136,137,138,139]),(0,[]),(0,[140]),(0,[]),(0,[142,143,144]),(0,[]),(0,[0,1,20,145,146,147,148,149]),(0,[]),(0,[]),(0,[]),(0,[]),(0,[]),(0,[]),(0,[]),(0,[]),(0,[]),(0,[]),(0,[]),(0,[]),(0,[]),(0,[]),(0,[]),(0,[]),(0,[]),(0,[]),(0,[]),(0,[]),(0,[]),(0,[]),(0,[]),(0,[]),(0,[]),(0,[]),(0,[]),(0,[]),(0,[]),(0,[]),(0,[]),(0,[]),(0,[]),(0,[]),(0,[]),(0,[]),(0,[]),(0,[]),(0,[]),(0,[]),(0,[]),(0,[]),(0,[]),(0,[]),(0,[]),(0,[]),(0,[]),(0,[]),(0,[]),(0,[]),(0,[]),(0,[]),(0,[]),(0,[]),(0,[]),(0,[]),(0,[]),(0,[]),(0,[]),(0,[]),(0,[]),(0,[]),(0,[]),(0,[]),(0,[]),(0,[]),(0,[]),(0,[]),(0,[]),(0,[]),(0,[]),(0,[]),(0,[]),(0,[]),(0,[]),(0,[]),(0,[]),(0,[]),(0,[]),(0,[]),(0,[]),(0,[]),(0,[]),(0,[]),(0,[]),(0,[]),(0,[]),(0,[]),(0,[]),(0,[]),(0,[]),(0,[]),(0,[]),(0,[]),(0,[]),(0,[]),(0,[]),(0,[]),(0,[]),(0,[]),(0,[]),(0,[]),(0,[]),(0,[]),(0,[]),(0,[]),(0,[]),(0,[]),(0,[]),(0,[]),(0,[]),(0,[]),(0,[]),(0,[]),(0,[]),(0,[]),(0,[]),(0,[]),(0,[]),(0,[]),(0,[]),(0,[]),(0,[]),(0,[]),(0,[]),(0,[]),(0,[]),(0,[]),(0,[]),(0,[]),(0,[]),(0,[]),(0,[]),(0,[]),(0,[]),(0,[]),(0,[]),(0,[]),(0,[]),(0,[]),(0,[]),(0,[]),(0,[]),(0,[]),(0,[]),(0,[]),(0,[]),(0,[]),(0,[]),(0,[]),(1,[])]
noncomputable def n70:FInfo:=⟨bodyOf Tryz.f70,[.tmp 10],[24]⟩
theorem i70:finfo Tryz.prog 70 d70=some n70:=finfo_at Tryz.func70 rfl (by kernel_rfl) (by kernel_rfl)
noncomputable def c5:CallP:=orC 70 (λxs=>bodyP Tryz.prog inl c4 q0 100 d70 n70 xs) c4
theorem c5_ok:CpOK Tryz.prog c5:=orC_ok c4_ok λargs r h=>bodyP_ok mixed c4_ok q0_ok i70 h
def d36:List (Nat×List Nat):=[(0,[6]),(0,[1,2]),(0,[14,15,16,17]),(0,[7,13]),(0,[19,20,21,22,23,24,25,26,27,28,29,30,31,32,33,34,35,36,37,38,39]),(0,[]),(0,[]),(0,[]),(0,[41,42]),(0,[]),(0,[43]),(0,[]),(0,[45,46]),(0,[]),(0,[47]),(0,[]),(0,[49,50,51,52,53,54,55,56]),(0,[]),(0,[57,58]),(0,[]),(0,[60]),(0,[]),(0,[61,62]),(0,[]),(0,[63,64,65,66]),(0,[]),(0,[68,69]),(0,[]),(0,[70,71,72,73,74]),(0,[]),(10,[75,76,77,78,79,80]),(0,[]),(0,[81]),(0,[]),(0,[83,84,85]),(0,[]),(0,[86,87]),(0,[]),(0,[88,89,90]),(0,[]),(0,[91,92,93,94,95]),(0,[]),(8,[96,97,98,99,100,101,102]),(0,[]),(0,[9,104,105,106,107,108]),(0,[]),(0,[109,110,111,112,113,114,115,116,117]),(0,[]),(0,[119]),(0,[]),(0,[120,121,122,123,124,125,126,127,128]),(0,[]),(0,[130,131,132]),(0,[]),(0,[133,134]),(0,[]),(0,[136,137,138]),(0,[]),(0,[139,140,141,142,143,144,145,146]),(0,[]),(0,[0,8,10,11,12,147,148,149,150,151,152,153,154])]
noncomputable def n36:FInfo:=⟨bodyOf Tryz.f36,[.tmp 6],[24]⟩
theorem i36:finfo Tryz.prog 36 d36=some n36:=finfo_at Tryz.func36 rfl (by kernel_rfl) (by kernel_rfl)
noncomputable def c6:CallP:=orC 36 (λxs=>bodyP Tryz.prog inl c5 q0 100 d36 n36 xs) c5
theorem c6_ok:CpOK Tryz.prog c6:=orC_ok c5_ok λargs r h=>bodyP_ok mixed c5_ok q0_ok i36 h
def d18:List (Nat×List Nat):=[(0,[4]),(0,[]),(0,[0,1,5,6,7])]
noncomputable def n18:FInfo:=⟨bodyOf Tryz.f18,[.tmp 4],[24]⟩
theorem i18:finfo Tryz.prog 18 d18=some n18:=finfo_at Tryz.func18 rfl (by kernel_rfl) (by kernel_rfl)
noncomputable def c7:CallP:=orC 18 (λxs=>bodyP Tryz.prog inl c6 q0 100 d18 n18 xs) c6
theorem c7_ok:CpOK Tryz.prog c7:=orC_ok c6_ok λargs r h=>bodyP_ok mixed c6_ok q0_ok i18 h
def d150:List (Nat×List Nat):=[(0,[2]),(0,[]),(0,[0,3,4])]
noncomputable def n150:FInfo:=⟨bodyOf Tryz.f150,[.tmp 2],[24]⟩
theorem i150:finfo Tryz.prog 150 d150=some n150:=finfo_at Tryz.func150 rfl (by kernel_rfl) (by kernel_rfl)
noncomputable def c8:CallP:=orC 150 (λxs=>bodyP Tryz.prog inl c7 q0 100 d150 n150 xs) c7
theorem c8_ok:CpOK Tryz.prog c8:=orC_ok c7_ok λargs r h=>bodyP_ok mixed c7_ok q0_ok i150 h
def d89:List (Nat×List Nat):=[(0,[2]),(0,[]),(0,[0,3,4,5])]
noncomputable def n89:FInfo:=⟨bodyOf Tryz.f89,[.tmp 2],[4]⟩
theorem i89:finfo Tryz.prog 89 d89=some n89:=finfo_at Tryz.func89 rfl (by kernel_rfl) (by kernel_rfl)
noncomputable def c9:CallP:=orC 89 (λxs=>bodyP Tryz.prog inl c8 q0 100 d89 n89 xs) c8
theorem c9_ok:CpOK Tryz.prog c9:=orC_ok c8_ok λargs r h=>bodyP_ok mixed c8_ok q0_ok i89 h
def d185:List (Nat×List Nat):=[(0,[2]),(0,[]),(0,[4,5,6]),(0,[]),(0,[0,7,8]),(0,[]),(0,[10,11]),(0,[]),(0,[3,12])]
noncomputable def n185:FInfo:=⟨bodyOf Tryz.f185,[.tmp 2],[3]⟩
theorem i185:finfo Tryz.prog 185 d185=some n185:=finfo_at Tryz.func185 rfl (by kernel_rfl) (by kernel_rfl)
noncomputable def c10:CallP:=orC 185 (λxs=>bodyP Tryz.prog inl c9 q0 100 d185 n185 xs) c9
theorem c10_ok:CpOK Tryz.prog c10:=orC_ok c9_ok λargs r h=>bodyP_ok mixed c9_ok q0_ok i185 h
def d111:List (Nat×List Nat):=[(0,[4]),(0,[]),(0,[0,1,5,6,7,8,9,10,11,12,13,14,15,16,17,18,19])]
noncomputable def n111:FInfo:=⟨bodyOf Tryz.f111,[.tmp 4],[4]⟩
theorem i111:finfo Tryz.prog 111 d111=some n111:=finfo_at Tryz.func111 rfl (by kernel_rfl) (by kernel_rfl)
noncomputable def c11:CallP:=orC 111 (λxs=>bodyP Tryz.prog inl c10 q0 100 d111 n111 xs) c10
theorem c11_ok:CpOK Tryz.prog c11:=orC_ok c10_ok λargs r h=>bodyP_ok mixed c10_ok q0_ok i111 h
def d112:List (Nat×List Nat):=[(0,[4]),(0,[]),(0,[0,1,5,6,7,8,9,10,11,12,13,14,15,16,17,18,19])]
noncomputable def n112:FInfo:=⟨bodyOf Tryz.f112,[.tmp 4],[4]⟩
theorem i112:finfo Tryz.prog 112 d112=some n112:=finfo_at Tryz.func112 rfl (by kernel_rfl) (by kernel_rfl)
noncomputable def c12:CallP:=orC 112 (λxs=>bodyP Tryz.prog inl c11 q0 100 d112 n112 xs) c11
theorem c12_ok:CpOK Tryz.prog c12:=orC_ok c11_ok λargs r h=>bodyP_ok mixed c11_ok q0_ok i112 h
def d50:List (Nat×List Nat):=[(0,[4]),(0,[1]),(0,[6,7,8,9,10,11]),(0,[]),(0,[]),(0,[]),(0,[13,14,15]),(0,[]),(0,[16,17,18]),(0,[]),(0,[20,21,22]),(0,[]),(0,[23]),(0,[]),(0,[0,24])]
noncomputable def n50:FInfo:=⟨bodyOf Tryz.f50,[.tmp 4],[24]⟩
theorem i50:finfo Tryz.prog 50 d50=some n50:=finfo_at Tryz.func50 rfl (by kernel_rfl) (by kernel_rfl)
noncomputable def c13:CallP:=orC 50 (λxs=>bodyP Tryz.prog inl c12 q0 100 d50 n50 xs) c12
theorem c13_ok:CpOK Tryz.prog c13:=orC_ok c12_ok λargs r h=>bodyP_ok mixed c12_ok q0_ok i50 h
def d125:List (Nat×List Nat):=[(0,[6]),(0,[]),(0,[1,2,10,11,12,13]),(0,[]),(0,[14,15,16,17,18]),(0,[]),(0,[20,21,22,23,24,25,26,27,28,29,30,31,32,33,34,35,36,37,38,39,40,41,42,43,44,45,46,47,48,49,50,51,52,53]),(0,[]),(0,[]),(0,[]),(0,[55,56,57,58,59,60]),(0,[]),(0,[61,62,63]),(0,[]),(0,[0,7,8,9,64,65,66,67,68,69,70,71,72,73,74,75,76])]
noncomputable def n125:FInfo:=⟨bodyOf Tryz.f125,[.tmp 6],[24]⟩
theorem i125:finfo Tryz.prog 125 d125=some n125:=finfo_at Tryz.func125 rfl (by kernel_rfl) (by kernel_rfl)
noncomputable def c14:CallP:=orC 125 (λxs=>bodyP Tryz.prog inl c13 q0 100 d125 n125 xs) c13
theorem c14_ok:CpOK Tryz.prog c14:=orC_ok c13_ok λargs r h=>bodyP_ok mixed c13_ok q0_ok i125 h
def d59:List (Nat×List Nat):=[(0,[4]),(0,[]),(0,[0,1,5,6,7])]
noncomputable def n59:FInfo:=⟨bodyOf Tryz.f59,[.tmp 4],[24]⟩
theorem i59:finfo Tryz.prog 59 d59=some n59:=finfo_at Tryz.func59 rfl (by kernel_rfl) (by kernel_rfl)
noncomputable def c15:CallP:=orC 59 (λxs=>bodyP Tryz.prog inl c14 q0 100 d59 n59 xs) c14
theorem c15_ok:CpOK Tryz.prog c15:=orC_ok c14_ok λargs r h=>bodyP_ok mixed c14_ok q0_ok i59 h
def d17:List (Nat×List Nat):=[(0,[6]),(0,[2,9,10,11]),(0,[0]),(0,[]),(0,[]),(0,[]),(0,[13,14]),(0,[]),(0,[8,15,16,17,18]),(0,[]),(0,[19]),(0,[]),(0,[1,20])]
noncomputable def n17:FInfo:=⟨bodyOf Tryz.f17,[.tmp 6],[24]⟩
theorem i17:finfo Tryz.prog 17 d17=some n17:=finfo_at Tryz.func17 rfl (by kernel_rfl) (by kernel_rfl)
noncomputable def c16:CallP:=orC 17 (λxs=>bodyP Tryz.prog inl c15 q0 100 d17 n17 xs) c15
theorem c16_ok:CpOK Tryz.prog c16:=orC_ok c15_ok λargs r h=>bodyP_ok mixed c15_ok q0_ok i17 h
def d9:List (Nat×List Nat):=[(0,[2]),(0,[]),(0,[0,3,4])]
noncomputable def n9:FInfo:=⟨bodyOf Tryz.f9,[.tmp 2],[24]⟩
theorem i9:finfo Tryz.prog 9 d9=some n9:=finfo_at Tryz.func9 rfl (by kernel_rfl) (by kernel_rfl)
noncomputable def c17:CallP:=orC 9 (λxs=>bodyP Tryz.prog inl c16 q0 100 d9 n9 xs) c16
theorem c17_ok:CpOK Tryz.prog c17:=orC_ok c16_ok λargs r h=>bodyP_ok mixed c16_ok q0_ok i9 h
def d22:List (Nat×List Nat):=[(0,[2]),(0,[]),(0,[0,3,4,5,6,7,8,9,10,11,12,13,14,15,16])]
noncomputable def n22:FInfo:=⟨bodyOf Tryz.f22,[.tmp 2],[4]⟩
theorem i22:finfo Tryz.prog 22 d22=some n22:=finfo_at Tryz.func22 rfl (by kernel_rfl) (by kernel_rfl)
noncomputable def c18:CallP:=orC 22 (λxs=>bodyP Tryz.prog inl c17 q0 100 d22 n22 xs) c17
theorem c18_ok:CpOK Tryz.prog c18:=orC_ok c17_ok λargs r h=>bodyP_ok mixed c17_ok q0_ok i22 h
def d80:List (Nat×List Nat):=[(0,[2]),(0,[3]),(0,[0]),(0,[]),(0,[5]),(0,[]),(0,[]),(0,[]),(0,[7]),(0,[]),(0,[]),(0,[]),(0,[9]),(0,[]),(0,[]),(0,[]),(0,[])]
noncomputable def n80:FInfo:=⟨bodyOf Tryz.f80,[.tmp 2],[3]⟩
theorem i80:finfo Tryz.prog 80 d80=some n80:=finfo_at Tryz.func80 rfl (by kernel_rfl) (by kernel_rfl)
noncomputable def c19:CallP:=orC 80 (λxs=>bodyP Tryz.prog inl c18 q0 100 d80 n80 xs) c18
theorem c19_ok:CpOK Tryz.prog c19:=orC_ok c18_ok λargs r h=>bodyP_ok mixed c18_ok q0_ok i80 h
def d38:List (Nat×List Nat):=[(0,[2]),(0,[]),(0,[0,3,4,5])]
noncomputable def n38:FInfo:=⟨bodyOf Tryz.f38,[.tmp 2],[4]⟩
theorem i38:finfo Tryz.prog 38 d38=some n38:=finfo_at Tryz.func38 rfl (by kernel_rfl) (by kernel_rfl)
noncomputable def c20:CallP:=orC 38 (λxs=>bodyP Tryz.prog inl c19 q0 100 d38 n38 xs) c19
theorem c20_ok:CpOK Tryz.prog c20:=orC_ok c19_ok λargs r h=>bodyP_ok mixed c19_ok q0_ok i38 h
def d82:List (Nat×List Nat):=[(0,[2]),(0,[]),(0,[0,3,4])]
noncomputable def n82:FInfo:=⟨bodyOf Tryz.f82,[.tmp 2],[4]⟩
theorem i82:finfo Tryz.prog 82 d82=some n82:=finfo_at Tryz.func82 rfl (by kernel_rfl) (by kernel_rfl)
noncomputable def c21:CallP:=orC 82 (λxs=>bodyP Tryz.prog inl c20 q0 100 d82 n82 xs) c20
theorem c21_ok:CpOK Tryz.prog c21:=orC_ok c20_ok λargs r h=>bodyP_ok mixed c20_ok q0_ok i82 h
def d83:List (Nat×List Nat):=[(0,[2]),(0,[]),(0,[0,3,4])]
noncomputable def n83:FInfo:=⟨bodyOf Tryz.f83,[.tmp 2],[4]⟩
theorem i83:finfo Tryz.prog 83 d83=some n83:=finfo_at Tryz.func83 rfl (by kernel_rfl) (by kernel_rfl)
noncomputable def c22:CallP:=orC 83 (λxs=>bodyP Tryz.prog inl c21 q0 100 d83 n83 xs) c21
theorem c22_ok:CpOK Tryz.prog c22:=orC_ok c21_ok λargs r h=>bodyP_ok mixed c21_ok q0_ok i83 h
def d206:List (Nat×List Nat):=[(0,[3]),(0,[]),(0,[0,1,4,5,6,7,8,9,10])]
noncomputable def n206:FInfo:=⟨bodyOf Tryz.f206,[.tmp 3],[4]⟩
theorem i206:finfo Tryz.prog 206 d206=some n206:=finfo_at Tryz.func206 rfl (by kernel_rfl) (by kernel_rfl)
noncomputable def c23:CallP:=orC 206 (λxs=>bodyP Tryz.prog inl c22 q0 100 d206 n206 xs) c22
theorem c23_ok:CpOK Tryz.prog c23:=orC_ok c22_ok λargs r h=>bodyP_ok mixed c22_ok q0_ok i206 h
def d148:List (Nat×List Nat):=[(0,[4]),(0,[0,1,7,8]),(0,[6]),(0,[5]),(0,[]),(0,[]),(0,[10]),(0,[]),(0,[11,12,13,14,15]),(0,[]),(0,[17]),(0,[]),(0,[18]),(0,[]),(0,[])]
noncomputable def n148:FInfo:=⟨bodyOf Tryz.f148,[.tmp 4],[3]⟩
theorem i148:finfo Tryz.prog 148 d148=some n148:=finfo_at Tryz.func148 rfl (by kernel_rfl) (by kernel_rfl)
noncomputable def c24:CallP:=orC 148 (λxs=>bodyP Tryz.prog inl c23 q0 100 d148 n148 xs) c23
theorem c24_ok:CpOK Tryz.prog c24:=orC_ok c23_ok λargs r h=>bodyP_ok mixed c23_ok q0_ok i148 h
def d81:List (Nat×List Nat):=[(0,[4]),(0,[]),(0,[0,1,5,6,7,8])]
noncomputable def n81:FInfo:=⟨bodyOf Tryz.f81,[.tmp 4],[4]⟩
theorem i81:finfo Tryz.prog 81 d81=some n81:=finfo_at Tryz.func81 rfl (by kernel_rfl) (by kernel_rfl)
noncomputable def c25:CallP:=orC 81 (λxs=>bodyP Tryz.prog inl c24 q0 100 d81 n81 xs) c24
theorem c25_ok:CpOK Tryz.prog c25:=orC_ok c24_ok λargs r h=>bodyP_ok mixed c24_ok q0_ok i81 h
def d149:List (Nat×List Nat):=[(0,[4]),(0,[0,1,7,8]),(0,[6]),(0,[5]),(0,[]),(0,[]),(0,[10]),(0,[]),(0,[11,12,13,14,15]),(0,[]),(0,[17]),(0,[]),(0,[18]),(0,[]),(0,[])]
noncomputable def n149:FInfo:=⟨bodyOf Tryz.f149,[.tmp 4],[3]⟩
theorem i149:finfo Tryz.prog 149 d149=some n149:=finfo_at Tryz.func149 rfl (by kernel_rfl) (by kernel_rfl)
noncomputable def c26:CallP:=orC 149 (λxs=>bodyP Tryz.prog inl c25 q0 100 d149 n149 xs) c25
theorem c26_ok:CpOK Tryz.prog c26:=orC_ok c25_ok λargs r h=>bodyP_ok mixed c25_ok q0_ok i149 h
def d84:List (Nat×List Nat):=[(0,[4]),(0,[]),(0,[0,1,5,6,7,8])]
noncomputable def n84:FInfo:=⟨bodyOf Tryz.f84,[.tmp 4],[4]⟩
theorem i84:finfo Tryz.prog 84 d84=some n84:=finfo_at Tryz.func84 rfl (by kernel_rfl) (by kernel_rfl)
noncomputable def c27:CallP:=orC 84 (λxs=>bodyP Tryz.prog inl c26 q0 100 d84 n84 xs) c26
theorem c27_ok:CpOK Tryz.prog c27:=orC_ok c26_ok λargs r h=>bodyP_ok mixed c26_ok q0_ok i84 h
def d39:List (Nat×List Nat):=[(0,[2,3]),(0,[18,19,20]),(0,[7]),(0,[]),(0,[]),(0,[]),(0,[9,10,11,12,13,14]),(0,[]),(0,[]),(0,[]),(0,[16]),(0,[]),(0,[]),(0,[]),(0,[]),(0,[]),(0,[0]),(0,[]),(0,[]),(0,[]),(0,[22,23]),(0,[]),(0,[24,25,26]),(0,[]),(0,[]),(0,[]),(0,[6,28,29,30]),(0,[]),(0,[31]),(0,[]),(0,[4,32])]
noncomputable def n39:FInfo:=⟨bodyOf Tryz.f39,[.tmp 2,.tmp 3],[3,32]⟩
theorem i39:finfo Tryz.prog 39 d39=some n39:=finfo_at Tryz.func39 rfl (by kernel_rfl) (by kernel_rfl)
noncomputable def c28:CallP:=orC 39 (λxs=>bodyP Tryz.prog inl c27 q0 100 d39 n39 xs) c27
theorem c28_ok:CpOK Tryz.prog c28:=orC_ok c27_ok λargs r h=>bodyP_ok mixed c27_ok q0_ok i39 h
def d23:List (Nat×List Nat):=[(0,[0,2]),(0,[23]),(0,[6,7,8]),(0,[]),(0,[]),(0,[]),(0,[10,11,12,13,14,15]),(0,[]),(0,[16]),(0,[]),(0,[18]),(0,[]),(0,[4,19,20,21]),(0,[]),(0,[22]),(0,[]),(0,[25]),(0,[]),(0,[26,27,28]),(0,[]),(0,[30]),(0,[]),(0,[31,32,33]),(0,[]),(0,[1,3,5,34,35,36,37,38,39,40,41,42,43,44,45,46,47,48,49,50]),(0,[]),(0,[]),(0,[]),(0,[])]
noncomputable def n23:FInfo:=⟨bodyOf Tryz.f23,[.tmp 2],[32]⟩
theorem i23:finfo Tryz.prog 23 d23=some n23:=finfo_at Tryz.func23 rfl (by kernel_rfl) (by kernel_rfl)
noncomputable def c29:CallP:=orC 23 (λxs=>bodyP Tryz.prog inl c28 q0 100 d23 n23 xs) c28
theorem c29_ok:CpOK Tryz.prog c29:=orC_ok c28_ok λargs r h=>bodyP_ok mixed c28_ok q0_ok i23 h
def d85:List (Nat×List Nat):=[(0,[2]),(0,[]),(0,[0,3,4,5])]
noncomputable def n85:FInfo:=⟨bodyOf Tryz.f85,[.tmp 2],[27]⟩
theorem i85:finfo Tryz.prog 85 d85=some n85:=finfo_at Tryz.func85 rfl (by kernel_rfl) (by kernel_rfl)
noncomputable def c30:CallP:=orC 85 (λxs=>bodyP Tryz.prog inl c29 q0 100 d85 n85 xs) c29
theorem c30_ok:CpOK Tryz.prog c30:=orC_ok c29_ok λargs r h=>bodyP_ok mixed c29_ok q0_ok i85 h
def d86:List (Nat×List Nat):=[(0,[2]),(0,[]),(0,[0,3,4,5])]
noncomputable def n86:FInfo:=⟨bodyOf Tryz.f86,[.tmp 2],[22]⟩
theorem i86:finfo Tryz.prog 86 d86=some n86:=finfo_at Tryz.func86 rfl (by kernel_rfl) (by kernel_rfl)
noncomputable def c31:CallP:=orC 86 (λxs=>bodyP Tryz.prog inl c30 q0 100 d86 n86 xs) c30
theorem c31_ok:CpOK Tryz.prog c31:=orC_ok c30_ok λargs r h=>bodyP_ok mixed c30_ok q0_ok i86 h
def d87:List (Nat×List Nat):=[(0,[2]),(0,[]),(0,[0,3,4,5])]
noncomputable def n87:FInfo:=⟨bodyOf Tryz.f87,[.tmp 2],[28]⟩
theorem i87:finfo Tryz.prog 87 d87=some n87:=finfo_at Tryz.func87 rfl (by kernel_rfl) (by kernel_rfl)
noncomputable def c32:CallP:=orC 87 (λxs=>bodyP Tryz.prog inl c31 q0 100 d87 n87 xs) c31
theorem c32_ok:CpOK Tryz.prog c32:=orC_ok c31_ok λargs r h=>bodyP_ok mixed c31_ok q0_ok i87 h
def d88:List (Nat×List Nat):=[(0,[2]),(0,[]),(0,[0,3,4,5])]
noncomputable def n88:FInfo:=⟨bodyOf Tryz.f88,[.tmp 2],[29]⟩
theorem i88:finfo Tryz.prog 88 d88=some n88:=finfo_at Tryz.func88 rfl (by kernel_rfl) (by kernel_rfl)
noncomputable def c33:CallP:=orC 88 (λxs=>bodyP Tryz.prog inl c32 q0 100 d88 n88 xs) c32
theorem c33_ok:CpOK Tryz.prog c33:=orC_ok c32_ok λargs r h=>bodyP_ok mixed c32_ok q0_ok i88 h
def d40:List (Nat×List Nat):=[(0,[0]),(0,[]),(15,[1,3,4,5,6,7,8,9,10,11,12,13,14,15,16,17])]
noncomputable def n40:FInfo:=⟨bodyOf Tryz.f40,[.cell 2 31],[31]⟩
theorem i40:finfo Tryz.prog 40 d40=some n40:=finfo_at Tryz.func40 rfl (by kernel_rfl) (by kernel_rfl)
noncomputable def c34:CallP:=orC 40 (λxs=>bodyP Tryz.prog inl c33 q0 100 d40 n40 xs) c33
theorem c34_ok:CpOK Tryz.prog c34:=orC_ok c33_ok λargs r h=>bodyP_ok mixed c33_ok q0_ok i40 h
def d41:List (Nat×List Nat):=[(0,[2]),(0,[]),(0,[3]),(0,[]),(0,[]),(0,[]),(0,[0,5])]
noncomputable def n41:FInfo:=⟨bodyOf Tryz.f41,[.tmp 2],[24]⟩
theorem i41:finfo Tryz.prog 41 d41=some n41:=finfo_at Tryz.func41 rfl (by kernel_rfl) (by kernel_rfl)
noncomputable def c35:CallP:=orC 41 (λxs=>bodyP Tryz.prog inl c34 q0 100 d41 n41 xs) c34
theorem c35_ok:CpOK Tryz.prog c35:=orC_ok c34_ok λargs r h=>bodyP_ok mixed c34_ok q0_ok i41 h
def d24:List (Nat×List Nat):=[(0,[0]),(0,[9,10,11]),(0,[1,6,7]),(0,[]),(0,[8]),(0,[]),(0,[]),(0,[]),(0,[13,14,15]),(0,[]),(6,[4,5,16,17,18,19,20,21]),(0,[]),(0,[22]),(0,[]),(0,[3,23])]
noncomputable def n24:FInfo:=⟨bodyOf Tryz.f24,[.cell 2 31],[31]⟩
theorem i24:finfo Tryz.prog 24 d24=some n24:=finfo_at Tryz.func24 rfl (by kernel_rfl) (by kernel_rfl)
noncomputable def c36:CallP:=orC 24 (λxs=>bodyP Tryz.prog inl c35 q0 100 d24 n24 xs) c35
theorem c36_ok:CpOK Tryz.prog c36:=orC_ok c35_ok λargs r h=>bodyP_ok mixed c35_ok q0_ok i24 h
def d220:List (Nat×List Nat):=[(0,[4]),(0,[]),(0,[5]),(0,[]),(0,[7]),(0,[]),(0,[8,9,10,11,12,13,14]),(0,[]),(0,[15]),(0,[]),(0,[17,18,19,20,21,22,23,24,25]),(0,[]),(0,[0,1,26,6000004])]
noncomputable def n220:FInfo:=⟨bodyOf Tryz.f220,[.tmp 4],[170]⟩
theorem i220:finfo Tryz.prog 220 d220=some n220:=finfo_at Tryz.func220 rfl (by kernel_rfl) (by kernel_rfl)
noncomputable def q1:CallI:=ciE Tryz.prog inl c36 q0 100 220 d220 n220 q0
theorem q1_ok:CiOK Tryz.prog q1:=ciE_ok mixed c36_ok q0_ok i220 q0_ok
def d207:List (Nat×List Nat):=[(0,[2]),(0,[9,10,11]),(0,[]),(0,[]),(0,[]),(0,[25,26,27]),(0,[]),(0,[]),(0,[13,14]),(0,[]),(0,[5,15,16,17,18]),(0,[]),(0,[19]),(0,[]),(0,[21]),(0,[]),(0,[22]),(0,[]),(0,[3,23,24,3000000006]),(0,[]),(0,[0]),(0,[]),(0,[]),(0,[]),(0,[29,30]),(0,[]),(0,[8,31,32,33]),(0,[]),(0,[34]),(0,[]),(0,[6,35])]
noncomputable def n207:FInfo:=⟨bodyOf Tryz.f207,[.tmp 2],[170]⟩
theorem i207:finfo Tryz.prog 207 d207=some n207:=finfo_at Tryz.func207 rfl (by kernel_rfl) (by kernel_rfl)
noncomputable def c37:CallP:=orC 207 (λxs=>bodyP Tryz.prog inl c36 q1 100 d207 n207 xs) c36
theorem c37_ok:CpOK Tryz.prog c37:=orC_ok c36_ok λargs r h=>bodyP_ok mixed c36_ok q1_ok i207 h
def d208:List (Nat×List Nat):=[(0,[0]),(0,[]),(0,[1,2,3,4,5,6,7,8,9,10,11,12,13,14,15,16,17,18,19,20,21,22,23,24,25,26,27,28,29,30,31,32,33,34,35,36,37,38,39,40,41,42,43,44,45])]
noncomputable def n208:FInfo:=⟨bodyOf Tryz.f208,[.tmp 0],[170]⟩
theorem i208:finfo Tryz.prog 208 d208=some n208:=finfo_at Tryz.func208 rfl (by kernel_rfl) (by kernel_rfl)
noncomputable def c38:CallP:=orC 208 (λxs=>bodyP Tryz.prog inl c37 q1 100 d208 n208 xs) c37
theorem c38_ok:CpOK Tryz.prog c38:=orC_ok c37_ok λargs r h=>bodyP_ok mixed c37_ok q1_ok i208 h
def d209:List (Nat×List Nat):=[(0,[0]),(0,[]),(0,[1,2,3,4,5,6,7,8,9,10,11,12,13,14,15,16,17,18,19,20,21])]
noncomputable def n209:FInfo:=⟨bodyOf Tryz.f209,[.tmp 0],[170]⟩
theorem i209:finfo Tryz.prog 209 d209=some n209:=finfo_at Tryz.func209 rfl (by kernel_rfl) (by kernel_rfl)
noncomputable def c39:CallP:=orC 209 (λxs=>bodyP Tryz.prog inl c38 q1 100 d209 n209 xs) c38
theorem c39_ok:CpOK Tryz.prog c39:=orC_ok c38_ok λargs r h=>bodyP_ok mixed c38_ok q1_ok i209 h
def d210:List (Nat×List Nat):=[(0,[0]),(0,[]),(0,[1,2,3,4,5,6,7,8,9,10,11,12,13,14,15,16,17])]
noncomputable def n210:FInfo:=⟨bodyOf Tryz.f210,[.tmp 0],[170]⟩
theorem i210:finfo Tryz.prog 210 d210=some n210:=finfo_at Tryz.func210 rfl (by kernel_rfl) (by kernel_rfl)
noncomputable def c40:CallP:=orC 210 (λxs=>bodyP Tryz.prog inl c39 q1 100 d210 n210 xs) c39
theorem c40_ok:CpOK Tryz.prog c40:=orC_ok c39_ok λargs r h=>bodyP_ok mixed c39_ok q1_ok i210 h
def d194:List (Nat×List Nat):=[(0,[0]),(0,[]),(0,[1,2,3,4,5])]
noncomputable def n194:FInfo:=⟨bodyOf Tryz.f194,[.tmp 0],[170]⟩
theorem i194:finfo Tryz.prog 194 d194=some n194:=finfo_at Tryz.func194 rfl (by kernel_rfl) (by kernel_rfl)
noncomputable def c41:CallP:=orC 194 (λxs=>bodyP Tryz.prog inl c40 q1 100 d194 n194 xs) c40
theorem c41_ok:CpOK Tryz.prog c41:=orC_ok c40_ok λargs r h=>bodyP_ok mixed c40_ok q1_ok i194 h
def d151:List (Nat×List Nat):=[(0,[]),(0,[]),(0,[3,4,5,6,7]),(0,[]),(0,[9]),(0,[]),(0,[0,10,11,12,13,14])]
noncomputable def n151:FInfo:=⟨bodyOf Tryz.f151,[.cell 2 140],[140]⟩
theorem i151:finfo Tryz.prog 151 d151=some n151:=finfo_at Tryz.func151 rfl (by kernel_rfl) (by kernel_rfl)
noncomputable def c42:CallP:=orC 151 (λxs=>bodyP Tryz.prog inl c41 q1 100 d151 n151 xs) c41
theorem c42_ok:CpOK Tryz.prog c42:=orC_ok c41_ok λargs r h=>bodyP_ok mixed c41_ok q1_ok i151 h
def d90:List (Nat×List Nat):=[(0,[2,3,4,5]),(0,[]),(0,[0,7,8]),(0,[]),(12,[6,9,10,11,12,13,14,15,16])]
noncomputable def n90:FInfo:=⟨bodyOf Tryz.f90,[.tmp 2,.tmp 3,.tmp 4,.tmp 5],[3,3,3,3]⟩
theorem i90:finfo Tryz.prog 90 d90=some n90:=finfo_at Tryz.func90 rfl (by kernel_rfl) (by kernel_rfl)
noncomputable def k90:List AV->Option AV:=λxs=>bodyP Tryz.prog inl c42 q1 100 d90 n90 xs
def a90_0:List AV:=[.v (.int .i64 65)]
def r90_0:AV:= .tuple [.v (.int .i64 1),.v (.int .i64 2),.v (.int .i64 1),.v (.int .i64 1)]
theorem p90_0:k90 a90_0=some r90_0:=by kernel_rfl
def a90_1:List AV:=[.v (.int .i64 66)]
def r90_1:AV:= .tuple [.v (.int .i64 1),.v (.int .i64 1),.v (.int .i64 1),.v (.int .i64 1)]
theorem p90_1:k90 a90_1=some r90_1:=by kernel_rfl
def a90_2:List AV:=[.v (.int .i64 67)]
def r90_2:AV:= .tuple [.v (.int .i64 1),.v (.int .i64 1),.v (.int .i64 1),.v (.int .i64 1)]
theorem p90_2:k90 a90_2=some r90_2:=by kernel_rfl
def a90_3:List AV:=[.v (.int .i64 68)]
def r90_3:AV:= .tuple [.v (.int .i64 1),.v (.int .i64 1),.v (.int .i64 1),.v (.int .i64 1)]
theorem p90_3:k90 a90_3=some r90_3:=by kernel_rfl
def a90_4:List AV:=[.v (.int .i64 69)]
def r90_4:AV:= .tuple [.v (.int .i64 1),.v (.int .i64 1),.v (.int .i64 1),.v (.int .i64 1)]
theorem p90_4:k90 a90_4=some r90_4:=by kernel_rfl
def a90_5:List AV:=[.v (.int .i64 70)]
def r90_5:AV:= .tuple [.v (.int .i64 1),.v (.int .i64 1),.v (.int .i64 1),.v (.int .i64 1)]
theorem p90_5:k90 a90_5=some r90_5:=by kernel_rfl
def a90_6:List AV:=[.v (.int .i64 71)]
def r90_6:AV:= .tuple [.v (.int .i64 1),.v (.int .i64 1),.v (.int .i64 1),.v (.int .i64 1)]
theorem p90_6:k90 a90_6=some r90_6:=by kernel_rfl
def a90_7:List AV:=[.v (.int .i64 77)]
def r90_7:AV:= .tuple [.v (.int .i64 1),.v (.int .i64 1),.v (.int .i64 1),.v (.int .i64 1)]
theorem p90_7:k90 a90_7=some r90_7:=by kernel_rfl
def a90_8:List AV:=[.v (.int .i64 78)]
def r90_8:AV:= .tuple [.v (.int .i64 1),.v (.int .i64 1),.v (.int .i64 1),.v (.int .i64 1)]
theorem p90_8:k90 a90_8=some r90_8:=by kernel_rfl
noncomputable def z90:List AV->Option AV:=λxs=>if sameL (sameA 8) xs a90_0=true then some r90_0 else if sameL (sameA 8) xs a90_1=true then some r90_1 else if sameL (sameA 8) xs a90_2=true then some r90_2 else if sameL (sameA 8) xs a90_3=true then some r90_3 else if sameL (sameA 8) xs a90_4=true then some r90_4 else if sameL (sameA 8) xs a90_5=true then some r90_5 else if sameL (sameA 8) xs a90_6=true then some r90_6 else if sameL (sameA 8) xs a90_7=true then some r90_7 else if sameL (sameA 8) xs a90_8=true then some r90_8 else k90 xs
noncomputable def c43:CallP:=orC 90 z90 c42
theorem k90_ok(args:List AV)(r:AV)(h:k90 args=some r):PureOK Tryz.prog 90 args r:=by
  unfold k90 at h
  exact bodyP_ok mixed c42_ok q1_ok i90 h
theorem c43_ok:CpOK Tryz.prog c43:=orC_ok c42_ok fun args r h=>by
  unfold z90 at h
  by_cases h0:sameL (sameA 8) args a90_0=true
  · rw[if_pos h0]at h;injection h with h;subst h;rw[sameL_eq (sameA_eq 8) h0];exact k90_ok _ _ p90_0
  rw[if_neg h0]at h
  by_cases h1:sameL (sameA 8) args a90_1=true
  · rw[if_pos h1]at h;injection h with h;subst h;rw[sameL_eq (sameA_eq 8) h1];exact k90_ok _ _ p90_1
  rw[if_neg h1]at h
  by_cases h2:sameL (sameA 8) args a90_2=true
  · rw[if_pos h2]at h;injection h with h;subst h;rw[sameL_eq (sameA_eq 8) h2];exact k90_ok _ _ p90_2
  rw[if_neg h2]at h
  by_cases h3:sameL (sameA 8) args a90_3=true
  · rw[if_pos h3]at h;injection h with h;subst h;rw[sameL_eq (sameA_eq 8) h3];exact k90_ok _ _ p90_3
  rw[if_neg h3]at h
  by_cases h4:sameL (sameA 8) args a90_4=true
  · rw[if_pos h4]at h;injection h with h;subst h;rw[sameL_eq (sameA_eq 8) h4];exact k90_ok _ _ p90_4
  rw[if_neg h4]at h
  by_cases h5:sameL (sameA 8) args a90_5=true
  · rw[if_pos h5]at h;injection h with h;subst h;rw[sameL_eq (sameA_eq 8) h5];exact k90_ok _ _ p90_5
  rw[if_neg h5]at h
  by_cases h6:sameL (sameA 8) args a90_6=true
  · rw[if_pos h6]at h;injection h with h;subst h;rw[sameL_eq (sameA_eq 8) h6];exact k90_ok _ _ p90_6
  rw[if_neg h6]at h
  by_cases h7:sameL (sameA 8) args a90_7=true
  · rw[if_pos h7]at h;injection h with h;subst h;rw[sameL_eq (sameA_eq 8) h7];exact k90_ok _ _ p90_7
  rw[if_neg h7]at h
  by_cases h8:sameL (sameA 8) args a90_8=true
  · rw[if_pos h8]at h;injection h with h;subst h;rw[sameL_eq (sameA_eq 8) h8];exact k90_ok _ _ p90_8
  rw[if_neg h8]at h
  exact k90_ok _ _ h
def d107:List (Nat×List Nat):=[(0,[0]),(0,[]),(0,[5,6,7,8]),(0,[]),(0,[10,11,12,13,14]),(0,[]),(0,[1,2,15])]
noncomputable def n107:FInfo:=⟨bodyOf Tryz.f107,[.cell 4 60],[60]⟩
theorem i107:finfo Tryz.prog 107 d107=some n107:=finfo_at Tryz.func107 rfl (by kernel_rfl) (by kernel_rfl)
noncomputable def c44:CallP:=orC 107 (λxs=>bodyP Tryz.prog inl c43 q1 100 d107 n107 xs) c43
theorem c44_ok:CpOK Tryz.prog c44:=orC_ok c43_ok λargs r h=>bodyP_ok mixed c43_ok q1_ok i107 h
def d91:List (Nat×List Nat):=[(0,[0,4]),(0,[]),(0,[1,2,5,6,7,8,9])]
noncomputable def n91:FInfo:=⟨bodyOf Tryz.f91,[.tmp 4],[4]⟩
theorem i91:finfo Tryz.prog 91 d91=some n91:=finfo_at Tryz.func91 rfl (by kernel_rfl) (by kernel_rfl)
noncomputable def c45:CallP:=orC 91 (λxs=>bodyP Tryz.prog inl c44 q1 100 d91 n91 xs) c44
theorem c45_ok:CpOK Tryz.prog c45:=orC_ok c44_ok λargs r h=>bodyP_ok mixed c44_ok q1_ok i91 h
def d42:List (Nat×List Nat):=[(0,[0,2]),(0,[1,49,50]),(0,[8,9,10,11,12,13,14,15]),(0,[]),(0,[4,5,6,16,17,18,19,20,21,22,23,24,25,26,27,28,29,30,31,32,33,34,35,36,37,38,39,40,41,42,43,44,45,46,47]),(0,[]),(0,[]),(0,[]),(0,[3]),(0,[]),(0,[]),(0,[]),(0,[52]),(0,[]),(0,[7,53,54,55]),(0,[]),(0,[]),(0,[]),(0,[57]),(0,[]),(0,[])]
noncomputable def n42:FInfo:=⟨bodyOf Tryz.f42,[.tmp 2],[4]⟩
theorem i42:finfo Tryz.prog 42 d42=some n42:=finfo_at Tryz.func42 rfl (by kernel_rfl) (by kernel_rfl)
noncomputable def c46:CallP:=orC 42 (λxs=>bodyP Tryz.prog inl c45 q1 100 d42 n42 xs) c45
theorem c46_ok:CpOK Tryz.prog c46:=orC_ok c45_ok λargs r h=>bodyP_ok mixed c45_ok q1_ok i42 h
def d152:List (Nat×List Nat):=[(0,[2]),(0,[3,4,13,18,31,36,45,55]),(0,[0]),(0,[]),(0,[5]),(0,[]),(0,[6]),(0,[]),(0,[7]),(1,[]),(0,[8]),(0,[]),(0,[9]),(0,[]),(0,[10]),(0,[]),(0,[11]),(0,[]),(0,[12]),(0,[]),(0,[]),(0,[]),(0,[14]),(0,[]),(0,[15]),(0,[]),(0,[16]),(1,[]),(0,[17]),(0,[]),(0,[]),(0,[]),(0,[19]),(0,[]),(0,[20]),(0,[]),(0,[21]),(1,[]),(0,[22]),(0,[]),(0,[23]),(0,[]),(0,[24]),(0,[]),(0,[25]),(0,[]),(0,[26]),(0,[]),(0,[27]),(0,[]),(0,[28]),(0,[]),(0,[29]),(0,[]),(0,[30]),(0,[]),(0,[]),(0,[]),(0,[32]),(0,[]),(0,[33]),(0,[]),(0,[]),(1,[]),(0,[35]),(0,[]),(0,[]),(0,[]),(0,[37]),(0,[]),(0,[38]),(0,[]),(0,[39]),(1,[]),(0,[40]),(0,[]),(0,[41]),(0,[]),(0,[42]),(0,[]),(0,[43]),(0,[]),(0,[44]),(0,[]),(0,[]),(0,[]),(0,[46]),(0,[]),(0,[47]),(0,[]),(0,[48]),(1,[]),(0,[49]),(0,[]),(0,[50]),(0,[]),(0,[51]),(0,[]),(0,[52]),(0,[]),(0,[53]),(0,[]),(0,[54]),(0,[]),(0,[]),(0,[]),(0,[56]),(0,[]),(0,[57]),(0,[]),(0,[]),(1,[]),(0,[59]),(0,[]),(0,[]),(0,[]),(0,[61]),(0,[]),(0,[]),(0,[]),(0,[])]
noncomputable def n152:FInfo:=⟨bodyOf Tryz.f152,[.tmp 2],[9]⟩
theorem i152:finfo Tryz.prog 152 d152=some n152:=finfo_at Tryz.func152 rfl (by kernel_rfl) (by kernel_rfl)
noncomputable def c47:CallP:=orC 152 (λxs=>bodyP Tryz.prog inl c46 q1 100 d152 n152 xs) c46
theorem c47_ok:CpOK Tryz.prog c47:=orC_ok c46_ok λargs r h=>bodyP_ok mixed c46_ok q1_ok i152 h
def d153:List (Nat×List Nat):=[(0,[0,6]),(0,[1,3,12]),(0,[8,9,10,11]),(0,[]),(0,[2]),(0,[]),(0,[14]),(0,[]),(0,[15,16,17,18,19,20]),(0,[]),(0,[22]),(0,[]),(0,[23,24]),(0,[]),(0,[26]),(0,[]),(0,[27,28]),(0,[]),(0,[30]),(0,[]),(0,[31,32]),(0,[]),(0,[34]),(0,[]),(0,[35,36,37,38,39]),(0,[]),(0,[41]),(0,[]),(0,[42,43,44,45,46,47,48]),(0,[]),(0,[7,49,50,51])]
noncomputable def n153:FInfo:=⟨bodyOf Tryz.f153,[.tmp 6],[4]⟩
theorem i153:finfo Tryz.prog 153 d153=some n153:=finfo_at Tryz.func153 rfl (by kernel_rfl) (by kernel_rfl)
noncomputable def c48:CallP:=orC 153 (λxs=>bodyP Tryz.prog inl c47 q1 100 d153 n153 xs) c47
theorem c48_ok:CpOK Tryz.prog c48:=orC_ok c47_ok λargs r h=>bodyP_ok mixed c47_ok q1_ok i153 h
def d92:List (Nat×List Nat):=[(0,[0,2]),(0,[3,10,11]),(0,[5,6,7]),(0,[]),(0,[8,9]),(0,[]),(0,[]),(0,[]),(0,[13]),(0,[]),(24,[4,14,15,16,17,18,19,20,21,22,23,24,25,26,27,28,29,30,31,32,33,34,35,36]),(0,[]),(0,[]),(0,[]),(0,[38]),(0,[]),(0,[1,39,40,41,42,43,44,45,46,47,48,49,50,51,52,53])]
noncomputable def n92:FInfo:=⟨bodyOf Tryz.f92,[.tmp 2],[4]⟩
theorem i92:finfo Tryz.prog 92 d92=some n92:=finfo_at Tryz.func92 rfl (by kernel_rfl) (by kernel_rfl)
noncomputable def c49:CallP:=orC 92 (λxs=>bodyP Tryz.prog inl c48 q1 100 d92 n92 xs) c48
theorem c49_ok:CpOK Tryz.prog c49:=orC_ok c48_ok λargs r h=>bodyP_ok mixed c48_ok q1_ok i92 h
def d60:List (Nat×List Nat):=[(0,[4,5]),(0,[0,1]),(0,[7,8]),(0,[]),(0,[]),(0,[]),(0,[10,11,12,13,14,15,16]),(0,[]),(0,[17]),(0,[]),(0,[19,20,21,22,23,24,25,26]),(0,[]),(0,[27,28,29]),(0,[]),(0,[])]
noncomputable def n60:FInfo:=⟨bodyOf Tryz.f60,[.tmp 4,.tmp 5],[3,32]⟩
theorem i60:finfo Tryz.prog 60 d60=some n60:=finfo_at Tryz.func60 rfl (by kernel_rfl) (by kernel_rfl)
noncomputable def c50:CallP:=orC 60 (λxs=>bodyP Tryz.prog inl c49 q1 100 d60 n60 xs) c49
theorem c50_ok:CpOK Tryz.prog c50:=orC_ok c49_ok λargs r h=>bodyP_ok mixed c49_ok q1_ok i60 h
def d95:List (Nat×List Nat):=[(0,[0,4]),(0,[]),(0,[1,2,5,6,7,8])]
noncomputable def n95:FInfo:=⟨bodyOf Tryz.f95,[.tmp 4],[27]⟩
theorem i95:finfo Tryz.prog 95 d95=some n95:=finfo_at Tryz.func95 rfl (by kernel_rfl) (by kernel_rfl)
noncomputable def c51:CallP:=orC 95 (λxs=>bodyP Tryz.prog inl c50 q1 100 d95 n95 xs) c50
theorem c51_ok:CpOK Tryz.prog c51:=orC_ok c50_ok λargs r h=>bodyP_ok mixed c50_ok q1_ok i95 h
def d154:List (Nat×List Nat):=[(0,[0,2]),(0,[]),(0,[1,3,4,5])]
noncomputable def n154:FInfo:=⟨bodyOf Tryz.f154,[.tmp 2],[3]⟩
theorem i154:finfo Tryz.prog 154 d154=some n154:=finfo_at Tryz.func154 rfl (by kernel_rfl) (by kernel_rfl)
noncomputable def c52:CallP:=orC 154 (λxs=>bodyP Tryz.prog inl c51 q1 100 d154 n154 xs) c51
theorem c52_ok:CpOK Tryz.prog c52:=orC_ok c51_ok λargs r h=>bodyP_ok mixed c51_ok q1_ok i154 h
def d155:List (Nat×List Nat):=[(0,[4,5]),(0,[1,20,21,22]),(0,[12,13,14,15,16]),(0,[]),(0,[]),(0,[]),(0,[18,19]),(0,[]),(0,[]),(0,[]),(0,[0]),(0,[]),(0,[]),(0,[]),(0,[24,25]),(0,[]),(0,[9,26,27,28,29,30,31]),(0,[]),(0,[32]),(0,[]),(0,[34]),(0,[]),(0,[11,35,36,37,38,39,40,41]),(0,[]),(0,[10,42,43,44]),(0,[]),(0,[45]),(0,[]),(0,[7]),(0,[]),(0,[]),(0,[]),(0,[6,47])]
noncomputable def n155:FInfo:=⟨bodyOf Tryz.f155,[.tmp 4,.tmp 5],[29,32]⟩
theorem i155:finfo Tryz.prog 155 d155=some n155:=finfo_at Tryz.func155 rfl (by kernel_rfl) (by kernel_rfl)
noncomputable def c53:CallP:=orC 155 (λxs=>bodyP Tryz.prog inl c52 q1 100 d155 n155 xs) c52
theorem c53_ok:CpOK Tryz.prog c53:=orC_ok c52_ok λargs r h=>bodyP_ok mixed c52_ok q1_ok i155 h
def d157:List (Nat×List Nat):=[(0,[4]),(0,[]),(0,[0,1,5,6,7,8,9,10,11,12,13])]
noncomputable def n157:FInfo:=⟨bodyOf Tryz.f157,[.tmp 4],[4]⟩
theorem i157:finfo Tryz.prog 157 d157=some n157:=finfo_at Tryz.func157 rfl (by kernel_rfl) (by kernel_rfl)
noncomputable def c54:CallP:=orC 157 (λxs=>bodyP Tryz.prog inl c53 q1 100 d157 n157 xs) c53
theorem c54_ok:CpOK Tryz.prog c54:=orC_ok c53_ok λargs r h=>bodyP_ok mixed c53_ok q1_ok i157 h
def d158:List (Nat×List Nat):=[(0,[0,2]),(0,[]),(0,[1,3,4,5,6,7,8,9,10,11,12,13,14,15,16,17,18])]
noncomputable def n158:FInfo:=⟨bodyOf Tryz.f158,[.tmp 2],[4]⟩
theorem i158:finfo Tryz.prog 158 d158=some n158:=finfo_at Tryz.func158 rfl (by kernel_rfl) (by kernel_rfl)
noncomputable def c55:CallP:=orC 158 (λxs=>bodyP Tryz.prog inl c54 q1 100 d158 n158 xs) c54
theorem c55_ok:CpOK Tryz.prog c55:=orC_ok c54_ok λargs r h=>bodyP_ok mixed c54_ok q1_ok i158 h
def d93:List (Nat×List Nat):=[(0,[0,2]),(0,[1,3,4,17,58,99,131,164]),(5,[12,13,14,15]),(0,[]),(0,[16]),(0,[]),(0,[19]),(0,[]),(0,[20,21,22,23,24,25,26,27]),(0,[]),(0,[29]),(0,[]),(0,[30,31,32,33]),(0,[]),(0,[35]),(0,[]),(0,[36,37,38,39,40,41,42,43,44,45,46,47,48,49]),(0,[]),(0,[5,50,51,52,53,54,55,56,57]),(0,[]),(0,[59]),(0,[]),(0,[60]),(0,[]),(0,[61,62,63,64,65,66,67,68]),(0,[]),(0,[70]),(0,[]),(0,[71,72,73,74,75,76,77]),(0,[]),(0,[6,7,78,79,80,81,82,83,84,85,86,87,88,89,90,91,92,93,94,95,96,97,98]),(0,[]),(0,[100]),(0,[]),(0,[101]),(0,[]),(0,[102]),(0,[]),(0,[103]),(0,[]),(0,[104]),(0,[]),(0,[105]),(0,[]),(0,[106]),(0,[]),(0,[107]),(0,[]),(0,[108]),(0,[]),(0,[8,109,110,111,112,113,114,115]),(0,[]),(0,[9,116,117]),(0,[]),(0,[119]),(0,[]),(0,[120,121,122,123,124,125,126,127,128,129,130]),(0,[]),(0,[132]),(0,[]),(0,[133]),(0,[]),(0,[134]),(0,[]),(0,[135]),(0,[]),(0,[10,136,137,138,139,140,141,142]),(0,[]),(0,[11,143,144]),(0,[]),(0,[146]),(0,[]),(0,[147,148,149,150,151,152,153,154,155,156,157,158,159,160,161,162,163]),(0,[]),(0,[165]),(0,[]),(0,[166]),(0,[]),(0,[167,168,169,170,171,172,173,174]),(0,[]),(0,[]),(0,[]),(0,[]),(0,[]),(0,[]),(0,[]),(0,[]),(0,[]),(0,[]),(0,[]),(0,[]),(0,[]),(0,[]),(0,[]),(0,[]),(0,[]),(0,[]),(0,[]),(0,[]),(0,[]),(0,[]),(0,[]),(0,[]),(0,[]),(0,[]),(0,[]),(0,[]),(0,[]),(0,[]),(0,[]),(0,[]),(0,[]),(0,[]),(0,[]),(0,[]),(0,[]),(0,[]),(1,[]),(0,[]),(0,[]),(0,[]),(0,[]),(0,[]),(0,[]),(0,[]),(0,[]),(0,[]),(0,[]),(0,[]),(0,[]),(0,[]),(0,[]),(0,[]),(0,[]),(0,[]),(0,[]),(0,[]),(0,[]),(0,[]),(0,[]),(0,[]),(0,[]),(0,[]),(0,[]),(0,[]),(0,[]),(0,[]),(0,[]),(0,[]),(0,[]),(0,[]),(0,[]),(0,[]),(0,[]),(0,[]),(0,[]),(0,[]),(0,[]),(0,[]),(0,[]),(0,[]),(0,[]),(0,[]),(0,[]),(0,[]),(0,[]),(0,[]),(0,[]),(0,[]),(0,[]),(0,[]),(0,[]),(0,[]),(0,[]),(0,[]),(0,[]),(0,[]),(0,[]),(0,[]),(0,[]),(0,[]),(0,[]),(0,[]),(0,[]),(0,[]),(0,[]),(0,[]),(0,[]),(0,[]),(0,[]),(0,[]),(0,[]),(0,[]),(0,[]),(0,[]),(0,[]),(0,[]),(0,[]),(0,[]),(1,[]),(0,[]),(0,[]),(0,[]),(0,[]),(0,[]),(0,[]),(0,[]),(0,[]),(0,[]),(0,[]),(0,[]),(0,[]),(0,[]),(0,[]),(0,[]),(0,[]),(0,[]),(0,[]),(0,[]),(0,[]),(0,[]),(0,[]),(0,[]),(0,[]),(0,[]),(0,[]),(0,[]),(0,[]),(0,[]),(0,[]),(0,[]),(0,[]),(0,[]),(0,[]),(0,[]),(0,[]),(0,[]),(0,[]),(0,[]),(0,[]),(0,[]),(0,[]),(0,[]),(0,[]),(0,[]),(0,[]),(0,[]),(0,[]),(0,[]),(0,[]),(0,[]),(0,[]),(0,[]),(0,[]),(0,[]),(0,[]),(0,[]),(0,[]),(0,[]),(0,[]),(0,[]),(0,[]),(0,[]),(1,[]),(0,[]),(0,[]),(0,[]),(0,[]),(0,[]),(0,[]),(0,[]),(0,[]),(0,[]),(0,[]),(0,[]),(0,[]),(0,[]),(0,[]),(0,[]),(0,[]),(0,[]),(0,[]),(0,[]),(0,[]),(0,[]),(0,[]),(0,[]),(0,[]),(0,[]),(0,[]),(0,[]),(0,[]),(0,[]),(0,[]),(0,[]),(0,[]),(0,[]),(0,[]),(0,[]),(0,[]),(0,[]),(0,[]),(0,[]),(0,[]),(0,[]),(0,[]),(0,[]),(0,[]),(0,[]),(0,[]),(0,[]),(0,[]),(0,[]),(0,[]),(0,[]),(0,[]),(0,[]),(0,[]),(0,[]),(0,[]),(0,[]),(0,[]),(0,[]),(0,[]),(0,[]),(0,[]),(0,[]),(0,[]),(0,[]),(1,[])]
noncomputable def n93:FInfo:=⟨bodyOf Tryz.f93,[.tmp 2],[4]⟩
theorem i93:finfo Tryz.prog 93 d93=some n93:=finfo_at Tryz.func93 rfl (by kernel_rfl) (by kernel_rfl)
noncomputable def c56:CallP:=orC 93 (λxs=>bodyP Tryz.prog inl c55 q1 100 d93 n93 xs) c55
theorem c56_ok:CpOK Tryz.prog c56:=orC_ok c55_ok λargs r h=>bodyP_ok mixed c55_ok q1_ok i93 h
def d159:List (Nat×List Nat):=[(0,[0,2]),(0,[8,13]),(0,[]),(0,[1,4,6]),(0,[7]),(0,[]),(0,[]),(0,[]),(0,[10]),(0,[]),(0,[]),(0,[]),(0,[12]),(0,[]),(0,[]),(0,[]),(0,[14]),(0,[]),(0,[15]),(0,[]),(0,[16]),(0,[]),(0,[17]),(0,[]),(0,[18]),(0,[]),(0,[19]),(1,[]),(0,[20]),(0,[]),(0,[21]),(0,[]),(0,[8000005]),(0,[]),(0,[3,22]),(0,[]),(0,[23,24]),(0,[]),(0,[26,27]),(0,[]),(0,[28,29]),(0,[]),(0,[31,32,33,34,35,36]),(0,[]),(0,[5,37])]
noncomputable def n159:FInfo:=⟨bodyOf Tryz.f159,[.tmp 2],[54]⟩
theorem i159:finfo Tryz.prog 159 d159=some n159:=finfo_at Tryz.func159 rfl (by kernel_rfl) (by kernel_rfl)
noncomputable def c57:CallP:=orC 159 (λxs=>bodyP Tryz.prog inl c56 q1 100 d159 n159 xs) c56
theorem c57_ok:CpOK Tryz.prog c57:=orC_ok c56_ok λargs r h=>bodyP_ok mixed c56_ok q1_ok i159 h
def d168:List (Nat×List Nat):=[(0,[4]),(0,[0,1,12,13]),(0,[6,7,8,9]),(0,[]),(0,[]),(0,[]),(0,[11]),(0,[]),(0,[]),(0,[]),(0,[15]),(0,[]),(9,[5,16,17,18,19,20,21,22,23]),(0,[]),(0,[]),(0,[]),(0,[25]),(0,[]),(0,[])]
noncomputable def n168:FInfo:=⟨bodyOf Tryz.f168,[.tmp 4],[4]⟩
theorem i168:finfo Tryz.prog 168 d168=some n168:=finfo_at Tryz.func168 rfl (by kernel_rfl) (by kernel_rfl)
noncomputable def c58:CallP:=orC 168 (λxs=>bodyP Tryz.prog inl c57 q1 100 d168 n168 xs) c57
theorem c58_ok:CpOK Tryz.prog c58:=orC_ok c57_ok λargs r h=>bodyP_ok mixed c57_ok q1_ok i168 h
def d162:List (Nat×List Nat):=[(0,[0,2]),(0,[]),(0,[1,3,4,5,6,7,8,9,10,11,12,13,14,15,16,17,18,19,20,21,22,23,24,25,26])]
noncomputable def n162:FInfo:=⟨bodyOf Tryz.f162,[.tmp 2],[4]⟩
theorem i162:finfo Tryz.prog 162 d162=some n162:=finfo_at Tryz.func162 rfl (by kernel_rfl) (by kernel_rfl)
noncomputable def c59:CallP:=orC 162 (λxs=>bodyP Tryz.prog inl c58 q1 100 d162 n162 xs) c58
theorem c59_ok:CpOK Tryz.prog c59:=orC_ok c58_ok λargs r h=>bodyP_ok mixed c58_ok q1_ok i162 h
def d161:List (Nat×List Nat):=[(0,[0,2]),(0,[]),(0,[1,3,4,5])]
noncomputable def n161:FInfo:=⟨bodyOf Tryz.f161,[.tmp 2],[4]⟩
theorem i161:finfo Tryz.prog 161 d161=some n161:=finfo_at Tryz.func161 rfl (by kernel_rfl) (by kernel_rfl)
noncomputable def c60:CallP:=orC 161 (λxs=>bodyP Tryz.prog inl c59 q1 100 d161 n161 xs) c59
theorem c60_ok:CpOK Tryz.prog c60:=orC_ok c59_ok λargs r h=>bodyP_ok mixed c59_ok q1_ok i161 h
def d163:List (Nat×List Nat):=[(0,[0,2]),(0,[]),(0,[1,3,4,5,6])]
noncomputable def n163:FInfo:=⟨bodyOf Tryz.f163,[.tmp 2],[4]⟩
theorem i163:finfo Tryz.prog 163 d163=some n163:=finfo_at Tryz.func163 rfl (by kernel_rfl) (by kernel_rfl)
noncomputable def c61:CallP:=orC 163 (λxs=>bodyP Tryz.prog inl c60 q1 100 d163 n163 xs) c60
theorem c61_ok:CpOK Tryz.prog c61:=orC_ok c60_ok λargs r h=>bodyP_ok mixed c60_ok q1_ok i163 h
def d166:List (Nat×List Nat):=[(0,[2]),(0,[]),(0,[0,3,4])]
noncomputable def n166:FInfo:=⟨bodyOf Tryz.f166,[.tmp 2],[4]⟩
theorem i166:finfo Tryz.prog 166 d166=some n166:=finfo_at Tryz.func166 rfl (by kernel_rfl) (by kernel_rfl)
noncomputable def c62:CallP:=orC 166 (λxs=>bodyP Tryz.prog inl c61 q1 100 d166 n166 xs) c61
theorem c62_ok:CpOK Tryz.prog c62:=orC_ok c61_ok λargs r h=>bodyP_ok mixed c61_ok q1_ok i166 h
def d196:List (Nat×List Nat):=[(0,[4]),(0,[0,1,7,8]),(0,[6]),(0,[5]),(0,[]),(0,[]),(0,[10]),(0,[]),(0,[11,12,13,14,15]),(0,[]),(0,[17]),(0,[]),(0,[18]),(0,[]),(0,[])]
noncomputable def n196:FInfo:=⟨bodyOf Tryz.f196,[.tmp 4],[3]⟩
theorem i196:finfo Tryz.prog 196 d196=some n196:=finfo_at Tryz.func196 rfl (by kernel_rfl) (by kernel_rfl)
noncomputable def c63:CallP:=orC 196 (λxs=>bodyP Tryz.prog inl c62 q1 100 d196 n196 xs) c62
theorem c63_ok:CpOK Tryz.prog c63:=orC_ok c62_ok λargs r h=>bodyP_ok mixed c62_ok q1_ok i196 h
def d165:List (Nat×List Nat):=[(0,[4]),(0,[]),(0,[0,1,5,6,7,8])]
noncomputable def n165:FInfo:=⟨bodyOf Tryz.f165,[.tmp 4],[4]⟩
theorem i165:finfo Tryz.prog 165 d165=some n165:=finfo_at Tryz.func165 rfl (by kernel_rfl) (by kernel_rfl)
noncomputable def c64:CallP:=orC 165 (λxs=>bodyP Tryz.prog inl c63 q1 100 d165 n165 xs) c63
theorem c64_ok:CpOK Tryz.prog c64:=orC_ok c63_ok λargs r h=>bodyP_ok mixed c63_ok q1_ok i165 h
def d164:List (Nat×List Nat):=[(0,[0,2]),(0,[]),(0,[1,3,4,5,6])]
noncomputable def n164:FInfo:=⟨bodyOf Tryz.f164,[.tmp 2],[4]⟩
theorem i164:finfo Tryz.prog 164 d164=some n164:=finfo_at Tryz.func164 rfl (by kernel_rfl) (by kernel_rfl)
noncomputable def c65:CallP:=orC 164 (λxs=>bodyP Tryz.prog inl c64 q1 100 d164 n164 xs) c64
theorem c65_ok:CpOK Tryz.prog c65:=orC_ok c64_ok λargs r h=>bodyP_ok mixed c64_ok q1_ok i164 h
def d195:List (Nat×List Nat):=[(0,[4]),(0,[0,1,7,8]),(0,[6]),(0,[5]),(0,[]),(0,[]),(0,[10]),(0,[]),(0,[11,12,13,14,15]),(0,[]),(0,[17]),(0,[]),(0,[18]),(0,[]),(0,[])]
noncomputable def n195:FInfo:=⟨bodyOf Tryz.f195,[.tmp 4],[3]⟩
theorem i195:finfo Tryz.prog 195 d195=some n195:=finfo_at Tryz.func195 rfl (by kernel_rfl) (by kernel_rfl)
noncomputable def c66:CallP:=orC 195 (λxs=>bodyP Tryz.prog inl c65 q1 100 d195 n195 xs) c65
theorem c66_ok:CpOK Tryz.prog c66:=orC_ok c65_ok λargs r h=>bodyP_ok mixed c65_ok q1_ok i195 h
def d160:List (Nat×List Nat):=[(0,[4]),(0,[]),(0,[0,1,5,6,7,8])]
noncomputable def n160:FInfo:=⟨bodyOf Tryz.f160,[.tmp 4],[4]⟩
theorem i160:finfo Tryz.prog 160 d160=some n160:=finfo_at Tryz.func160 rfl (by kernel_rfl) (by kernel_rfl)
noncomputable def c67:CallP:=orC 160 (λxs=>bodyP Tryz.prog inl c66 q1 100 d160 n160 xs) c66
theorem c67_ok:CpOK Tryz.prog c67:=orC_ok c66_ok λargs r h=>bodyP_ok mixed c66_ok q1_ok i160 h
def d94:List (Nat×List Nat):=[(0,[0,2]),(0,[1,3]),(0,[4,5]),(0,[]),(0,[7,8]),(0,[]),(0,[]),(0,[]),(0,[10,11]),(0,[]),(0,[]),(0,[]),(0,[13,14,15,16,17,18,19]),(0,[]),(0,[]),(0,[]),(0,[])]
noncomputable def n94:FInfo:=⟨bodyOf Tryz.f94,[.tmp 2],[32]⟩
theorem i94:finfo Tryz.prog 94 d94=some n94:=finfo_at Tryz.func94 rfl (by kernel_rfl) (by kernel_rfl)
noncomputable def c68:CallP:=orC 94 (λxs=>bodyP Tryz.prog inl c67 q1 100 d94 n94 xs) c67
theorem c68_ok:CpOK Tryz.prog c68:=orC_ok c67_ok λargs r h=>bodyP_ok mixed c67_ok q1_ok i94 h
def d43:List (Nat×List Nat):=[(0,[0,2]),(0,[8,9,10]),(0,[7]),(0,[]),(0,[]),(0,[]),(0,[12,13,14]),(0,[]),(0,[4,5,15,16,17,18,19,20]),(0,[]),(0,[3,6,21,22,23,24,25,26]),(0,[]),(0,[]),(0,[]),(0,[28]),(0,[]),(0,[30,31,32]),(0,[]),(0,[]),(0,[]),(0,[34,35,36]),(0,[]),(0,[]),(0,[]),(0,[1,37,38])]
noncomputable def n43:FInfo:=⟨bodyOf Tryz.f43,[.tmp 2],[32]⟩
theorem i43:finfo Tryz.prog 43 d43=some n43:=finfo_at Tryz.func43 rfl (by kernel_rfl) (by kernel_rfl)
noncomputable def c69:CallP:=orC 43 (λxs=>bodyP Tryz.prog inl c68 q1 100 d43 n43 xs) c68
theorem c69_ok:CpOK Tryz.prog c69:=orC_ok c68_ok λargs r h=>bodyP_ok mixed c68_ok q1_ok i43 h
def d106:List (Nat×List Nat):=[(0,[2,3]),(0,[]),(0,[0,4,5])]
noncomputable def n106:FInfo:=⟨bodyOf Tryz.f106,[.tmp 2,.tmp 3],[68,32]⟩
theorem i106:finfo Tryz.prog 106 d106=some n106:=finfo_at Tryz.func106 rfl (by kernel_rfl) (by kernel_rfl)
noncomputable def c70:CallP:=orC 106 (λxs=>bodyP Tryz.prog inl c69 q1 100 d106 n106 xs) c69
theorem c70_ok:CpOK Tryz.prog c70:=orC_ok c69_ok λargs r h=>bodyP_ok mixed c69_ok q1_ok i106 h
def d46:List (Nat×List Nat):=[(0,[2]),(0,[]),(0,[3]),(0,[]),(0,[]),(0,[]),(0,[0,5,6,7])]
noncomputable def n46:FInfo:=⟨bodyOf Tryz.f46,[.tmp 2],[27]⟩
theorem i46:finfo Tryz.prog 46 d46=some n46:=finfo_at Tryz.func46 rfl (by kernel_rfl) (by kernel_rfl)
def z46(k:List AV→Option AV):List AV→Option AV
  |[.arr 0 []]=>some (.fresh 1 0 [])
  |xs=>k xs
noncomputable def c71:CallP:=orC 46 (z46 λxs=>bodyP Tryz.prog inl c70 q1 100 d46 n46 xs) c70
theorem y46(a:Option Addr)(c:Nat):bodyP Tryz.prog inl c70 q1 100 d46 n46 [.v (.slice a 0 c)]=some (.fresh 1 0 []):=by cases a <;> kernel_rfl
theorem c71_ok:CpOK Tryz.prog c71:=orC_ok c70_ok fun args r h=>by
  unfold z46 at h
  split at h
  · injection h with h;subst h
    exact PureOK.arr0 λa c=>bodyP_ok mixed c70_ok q1_ok i46 (y46 a c)
  · exact bodyP_ok mixed c70_ok q1_ok i46 h
def d197:List (Nat×List Nat):=[(0,[0,4]),(0,[16,17,18]),(0,[1000005]),(0,[]),(0,[8,9,10]),(0,[]),(0,[]),(0,[]),(0,[1,2,12,13,14,15]),(0,[]),(0,[]),(0,[]),(0,[20,21]),(0,[]),(0,[7,22,23,24,25]),(0,[]),(0,[26]),(0,[]),(0,[5,27])]
noncomputable def n197:FInfo:=⟨bodyOf Tryz.f197,[.tmp 4],[27]⟩
theorem i197:finfo Tryz.prog 197 d197=some n197:=finfo_at Tryz.func197 rfl (by kernel_rfl) (by kernel_rfl)
noncomputable def c72:CallP:=orC 197 (λxs=>bodyP Tryz.prog inl c71 q1 100 d197 n197 xs) c71
theorem c72_ok:CpOK Tryz.prog c72:=orC_ok c71_ok λargs r h=>bodyP_ok mixed c71_ok q1_ok i197 h
def d181:List (Nat×List Nat):=[(0,[0,2,3]),(0,[12,13]),(0,[8,9,10]),(0,[49,50]),(0,[11]),(0,[]),(0,[14]),(0,[]),(0,[15]),(0,[]),(0,[16,17,18,19]),(0,[]),(0,[21]),(0,[]),(0,[22,23]),(0,[]),(0,[24,25]),(0,[]),(0,[]),(0,[]),(0,[27,28,29,30,31,32,33]),(0,[]),(0,[1,4,34,35,36,37,38,39,40,41,42,43,44,45,46]),(0,[]),(0,[48]),(0,[]),(0,[]),(1,[]),(0,[52]),(0,[]),(0,[7,53,54,55]),(0,[]),(0,[56]),(0,[]),(0,[5,6,57,58])]
noncomputable def n181:FInfo:=⟨bodyOf Tryz.f181,[.tmp 2,.tmp 3],[29,32]⟩
theorem i181:finfo Tryz.prog 181 d181=some n181:=finfo_at Tryz.func181 rfl (by kernel_rfl) (by kernel_rfl)
noncomputable def c73:CallP:=orC 181 (λxs=>bodyP Tryz.prog inl c72 q1 100 d181 n181 xs) c72
theorem c73_ok:CpOK Tryz.prog c73:=orC_ok c72_ok λargs r h=>bodyP_ok mixed c72_ok q1_ok i181 h
def d100:List (Nat×List Nat):=[(0,[0,2,3]),(0,[1,4,20,21,22]),(0,[9,10,11,12,13]),(0,[]),(0,[5,14]),(0,[8]),(0,[16,17,18]),(0,[]),(0,[1000006]),(0,[]),(0,[19]),(0,[]),(0,[]),(0,[]),(0,[24,25,26]),(0,[]),(0,[7,28,29,30,31,32]),(0,[]),(0,[33,34,35,36]),(0,[]),(0,[38,39,40,41,42,43,44,45,46,47,48,49]),(0,[]),(0,[50,51,52]),(0,[]),(0,[54,55,56]),(0,[]),(0,[57,58,59]),(0,[]),(0,[60]),(0,[]),(0,[6,61,62,63,64])]
noncomputable def n100:FInfo:=⟨bodyOf Tryz.f100,[.tmp 2,.tmp 3],[68,32]⟩
theorem i100:finfo Tryz.prog 100 d100=some n100:=finfo_at Tryz.func100 rfl (by kernel_rfl) (by kernel_rfl)
noncomputable def c74:CallP:=orC 100 (λxs=>bodyP Tryz.prog inl c73 q1 100 d100 n100 xs) c73
theorem c74_ok:CpOK Tryz.prog c74:=orC_ok c73_ok λargs r h=>bodyP_ok mixed c73_ok q1_ok i100 h
def d192:List (Nat×List Nat):=[(0,[0,4]),(0,[]),(0,[1,2,5,6,7,8])]
noncomputable def n192:FInfo:=⟨bodyOf Tryz.f192,[.tmp 4],[4]⟩
theorem i192:finfo Tryz.prog 192 d192=some n192:=finfo_at Tryz.func192 rfl (by kernel_rfl) (by kernel_rfl)
noncomputable def c75:CallP:=orC 192 (λxs=>bodyP Tryz.prog inl c74 q1 100 d192 n192 xs) c74
theorem c75_ok:CpOK Tryz.prog c75:=orC_ok c74_ok λargs r h=>bodyP_ok mixed c74_ok q1_ok i192 h
def d122:List (Nat×List Nat):=[(0,[16,17,18]),(0,[6,43,44]),(0,[24,25,26,27,28,29,30,31,32,33,34,35,36]),(0,[]),(0,[]),(0,[]),(0,[1,3,38,39,40,41,42]),(0,[]),(0,[]),(0,[]),(0,[45]),(0,[]),(0,[46]),(0,[]),(0,[47,48,49,50,51,52]),(0,[]),(0,[53]),(0,[]),(0,[]),(0,[]),(0,[55,56,57,58,59,60,61,62,63]),(0,[]),(0,[64]),(0,[]),(0,[66,67]),(0,[]),(0,[20,21,68,69,70]),(0,[]),(0,[72]),(0,[]),(0,[]),(0,[]),(0,[5,19,73,74,75,76,77,78,79]),(0,[]),(0,[80]),(0,[]),(0,[]),(0,[]),(0,[82,83,84,85]),(0,[]),(0,[0,2,7,22,86,87,88,89,90,91,92,93,94,95,96,97,98,99,100]),(0,[]),(0,[102,103]),(0,[]),(0,[4,23,104,105]),(0,[]),(0,[]),(0,[]),(0,[]),(0,[]),(0,[]),(0,[]),(0,[]),(0,[]),(0,[]),(0,[]),(0,[]),(0,[]),(0,[]),(0,[]),(0,[]),(0,[]),(0,[]),(0,[]),(0,[]),(0,[]),(0,[]),(0,[]),(0,[]),(0,[]),(0,[]),(0,[]),(0,[]),(0,[]),(0,[]),(0,[]),(0,[]),(0,[]),(0,[]),(0,[]),(0,[]),(0,[]),(0,[]),(0,[]),(0,[]),(0,[]),(0,[]),(0,[]),(0,[]),(1,[])]
noncomputable def n122:FInfo:=⟨bodyOf Tryz.f122,[.tmp 16,.tmp 17,.tmp 18],[3,3,32]⟩
theorem i122:finfo Tryz.prog 122 d122=some n122:=finfo_at Tryz.func122 rfl (by kernel_rfl) (by kernel_rfl)
noncomputable def c76:CallP:=orC 122 (λxs=>bodyP Tryz.prog inl c75 q1 100 d122 n122 xs) c75
theorem c76_ok:CpOK Tryz.prog c76:=orC_ok c75_ok λargs r h=>bodyP_ok mixed c75_ok q1_ok i122 h
def d202:List (Nat×List Nat):=[(0,[6]),(0,[]),(0,[7,8]),(0,[]),(0,[10]),(0,[]),(0,[0,1,2,11,12,13,14])]
noncomputable def n202:FInfo:=⟨bodyOf Tryz.f202,[.tmp 6],[3]⟩
theorem i202:finfo Tryz.prog 202 d202=some n202:=finfo_at Tryz.func202 rfl (by kernel_rfl) (by kernel_rfl)
noncomputable def c77:CallP:=orC 202 (λxs=>bodyP Tryz.prog inl c76 q1 100 d202 n202 xs) c76
theorem c77_ok:CpOK Tryz.prog c77:=orC_ok c76_ok λargs r h=>bodyP_ok mixed c76_ok q1_ok i202 h
def d182:List (Nat×List Nat):=[(0,[0,4,5]),(0,[1,2,7,14]),(0,[1000006]),(0,[]),(0,[12,13]),(0,[]),(0,[]),(0,[]),(0,[]),(0,[]),(0,[16]),(0,[]),(39,[8,10,17,18,19,20,21,22,23,24,25,26,27,28,29,30,31,32,33,34,35,36,37,38,39,40,41,42,43,44,45,46,47,48,49,50,51,52]),(0,[]),(0,[11,53]),(0,[]),(0,[]),(0,[]),(0,[9,55,56,57,58]),(0,[]),(0,[59]),(0,[]),(0,[6,60])]
noncomputable def n182:FInfo:=⟨bodyOf Tryz.f182,[.tmp 4,.tmp 5],[27,4]⟩
theorem i182:finfo Tryz.prog 182 d182=some n182:=finfo_at Tryz.func182 rfl (by kernel_rfl) (by kernel_rfl)
noncomputable def c78:CallP:=orC 182 (λxs=>bodyP Tryz.prog inl c77 q1 100 d182 n182 xs) c77
theorem c78_ok:CpOK Tryz.prog c78:=orC_ok c77_ok λargs r h=>bodyP_ok mixed c77_ok q1_ok i182 h
def d104:List (Nat×List Nat):=[(0,[0,2,3]),(0,[]),(0,[7,8]),(0,[]),(0,[9,10]),(0,[]),(0,[12,13,14]),(0,[]),(0,[1,15,16,17,18,19,20,21,22]),(0,[]),(0,[6,23]),(0,[]),(0,[25,26,27]),(0,[]),(18,[4,5,28,29,30,31,32,33,34,35,36,37,38,39,40,41,42,43])]
noncomputable def n104:FInfo:=⟨bodyOf Tryz.f104,[.tmp 2,.tmp 3],[68,32]⟩
theorem i104:finfo Tryz.prog 104 d104=some n104:=finfo_at Tryz.func104 rfl (by kernel_rfl) (by kernel_rfl)
noncomputable def c79:CallP:=orC 104 (λxs=>bodyP Tryz.prog inls c78 q1 100 d104 n104 xs) c78
theorem c79_ok:CpOK Tryz.prog c79:=orC_ok c78_ok λargs r h=>bodyP_ok mixed c78_ok q1_ok i104 h
def d44:List (Nat×List Nat):=[(0,[0,2,3]),(0,[1,5,9,10,54,78,108,115]),(0,[6,7]),(0,[]),(0,[8]),(0,[]),(0,[11]),(0,[]),(0,[12]),(0,[]),(0,[13]),(0,[]),(0,[14]),(0,[]),(0,[15]),(0,[]),(0,[16]),(0,[]),(0,[17]),(0,[]),(0,[18]),(1,[]),(0,[19]),(0,[]),(0,[20]),(0,[]),(0,[21]),(0,[]),(0,[22]),(0,[]),(0,[23]),(0,[]),(0,[24]),(0,[]),(0,[25]),(0,[]),(0,[26]),(0,[]),(0,[27]),(0,[]),(0,[28,29,30,31]),(0,[]),(0,[33]),(0,[]),(0,[34,35,36,37]),(0,[]),(0,[38]),(0,[]),(0,[40]),(0,[]),(0,[42]),(0,[]),(8,[43,44,45,46,47,48,49]),(0,[]),(0,[51,52,53]),(0,[]),(0,[55]),(0,[]),(0,[56]),(0,[]),(0,[57]),(0,[]),(0,[58]),(0,[]),(0,[59]),(0,[]),(0,[60]),(0,[]),(0,[61]),(0,[]),(0,[62]),(0,[]),(0,[63]),(0,[]),(0,[64]),(0,[]),(0,[65]),(0,[]),(0,[66]),(0,[]),(0,[67]),(0,[]),(0,[68]),(0,[]),(0,[69]),(0,[]),(0,[70]),(0,[]),(0,[71]),(0,[]),(0,[72]),(0,[]),(0,[73]),(0,[]),(0,[74,75,76,77]),(0,[]),(0,[79]),(0,[]),(0,[80]),(0,[]),(0,[81]),(0,[]),(0,[82]),(0,[]),(0,[83]),(0,[]),(0,[84]),(0,[]),(0,[85]),(1,[]),(0,[86,87,88,89]),(0,[]),(0,[91]),(0,[]),(0,[92,93,94,95]),(0,[]),(0,[97]),(0,[]),(0,[98,99,100,101]),(0,[]),(0,[103]),(0,[]),(0,[104,105,106,107]),(0,[]),(0,[109]),(0,[]),(0,[110]),(0,[]),(0,[111,112,113,114]),(0,[]),(0,[116]),(0,[]),(0,[117]),(0,[]),(0,[118]),(0,[]),(0,[119,120,121,122]),(0,[]),(0,[4,123,124,125,126]),(0,[]),(0,[]),(0,[]),(0,[]),(0,[]),(0,[]),(0,[]),(0,[]),(0,[]),(0,[]),(0,[]),(0,[]),(0,[]),(0,[]),(0,[]),(0,[]),(0,[]),(0,[]),(1,[]),(0,[]),(0,[]),(0,[]),(0,[]),(0,[]),(0,[]),(0,[]),(0,[]),(0,[]),(0,[]),(0,[]),(0,[]),(0,[]),(0,[]),(0,[]),(0,[]),(0,[]),(0,[]),(0,[]),(0,[]),(0,[]),(0,[]),(0,[]),(0,[]),(0,[]),(0,[]),(0,[]),(0,[]),(0,[]),(0,[]),(0,[]),(0,[]),(0,[]),(0,[]),(0,[]),(0,[]),(0,[]),(0,[]),(0,[]),(0,[]),(0,[]),(0,[]),(0,[]),(0,[]),(0,[]),(0,[]),(0,[]),(0,[]),(0,[]),(0,[]),(0,[]),(0,[]),(0,[]),(0,[]),(0,[]),(0,[]),(0,[]),(0,[]),(0,[]),(1,[]),(0,[]),(0,[]),(0,[]),(0,[]),(0,[]),(0,[]),(0,[]),(0,[]),(0,[]),(0,[]),(0,[]),(0,[]),(0,[]),(1,[])]
noncomputable def n44:FInfo:=⟨bodyOf Tryz.f44,[.tmp 2,.tmp 3],[68,32]⟩
theorem i44:finfo Tryz.prog 44 d44=some n44:=finfo_at Tryz.func44 rfl (by kernel_rfl) (by kernel_rfl)
noncomputable def c80:CallP:=orC 44 (λxs=>bodyP Tryz.prog inl c79 q1 100 d44 n44 xs) c79
theorem c80_ok:CpOK Tryz.prog c80:=orC_ok c79_ok λargs r h=>bodyP_ok mixed c79_ok q1_ok i44 h
def d45:List (Nat×List Nat):=[(0,[0,2]),(0,[4,5,17]),(0,[3]),(0,[]),(0,[6]),(0,[]),(0,[7]),(0,[]),(0,[8]),(0,[]),(0,[9]),(1,[]),(0,[10]),(0,[]),(0,[11]),(0,[]),(0,[12]),(0,[]),(0,[13]),(0,[]),(0,[14]),(0,[]),(0,[15]),(0,[]),(0,[16]),(0,[]),(0,[]),(0,[]),(0,[18]),(0,[]),(0,[19]),(0,[]),(0,[20]),(0,[]),(0,[21]),(1,[]),(0,[]),(0,[]),(0,[23]),(0,[]),(0,[24,25,26]),(0,[]),(0,[28]),(0,[]),(0,[29,30,31,32]),(0,[]),(0,[34]),(0,[]),(0,[35,36,37]),(0,[]),(0,[1,38,39,40])]
noncomputable def n45:FInfo:=⟨bodyOf Tryz.f45,[.tmp 2],[3]⟩
theorem i45:finfo Tryz.prog 45 d45=some n45:=finfo_at Tryz.func45 rfl (by kernel_rfl) (by kernel_rfl)
noncomputable def c81:CallP:=orC 45 (λxs=>bodyP Tryz.prog inl c80 q1 100 d45 n45 xs) c80
theorem c81_ok:CpOK Tryz.prog c81:=orC_ok c80_ok λargs r h=>bodyP_ok mixed c80_ok q1_ok i45 h
def d25:List (Nat×List Nat):=[(0,[1,8,9]),(0,[10,40,41,42]),(0,[0,2,3,5,19,20,21,22,23]),(0,[]),(0,[24,25]),(0,[]),(0,[]),(0,[]),(0,[27,28]),(0,[]),(0,[29]),(0,[]),(0,[31]),(0,[]),(0,[11,32,33,34,35,36]),(0,[]),(0,[37]),(0,[]),(0,[39]),(0,[]),(0,[13,8000014]),(0,[]),(0,[12]),(0,[]),(0,[]),(0,[]),(0,[44,45]),(0,[]),(0,[17,46,47,48,49,50]),(0,[]),(0,[18,51]),(0,[]),(0,[]),(0,[]),(0,[16,53,54,55,56,57,58,59,60]),(0,[]),(0,[61]),(0,[]),(0,[14,62])]
noncomputable def n25:FInfo:=⟨bodyOf Tryz.f25,[.tmp 8,.tmp 9],[54,32]⟩
theorem i25:finfo Tryz.prog 25 d25=some n25:=finfo_at Tryz.func25 rfl (by kernel_rfl) (by kernel_rfl)
noncomputable def k25:List AV->Option AV:=λxs=>bodyP Tryz.prog inl c81 q1 100 d25 n25 xs
def a25_0:List AV:=[.v (.int .i64 65),.agg [.v (.int .i64 0),.arr 0 [],.v (.bool false),.v (.bool true),.v (.bool false),.v (.bool false),.v (.bool false),.arr 0 [],.v (.bool false),.v (.int .u32 0),.v (.int .u32 0),.v (.int .u32 0),.v (.bool false),.v (.bool false),.v (.bool false),.v (.int .i64 0),.v (.int .i64 0),.v (.bool false),.v (.bool false),.v (.int .i64 0),.arr 0 [],.arr 0 [],.arr 0 [],.arr 0 [],.v (.int .i64 0),.v (.bool false),.v (.bool false),.v (.int .i64 0),.v (.int .i64 0),.v (.int .i64 0),.v (.bool false),.v (.int .i64 0),.arr 0 [],.arr 0 [],.arr 0 [],.arr 0 []],.arr 2 [.v (.int .i64 1),.arr 2 [.v (.int .i64 2),.v (.int .i64 2)],.v (.bool true),.v (.int .i64 1),.arr 2 [.v (.int .i64 2),.v (.int .i64 2)],.arr 4 [.v (.int .u32 1065353216),.v (.int .u32 1073741824),.v (.int .u32 1077936128),.v (.int .u32 1082130432)],.arr 0 [],.arr 0 [],.v (.int .i64 7),.arr 1 [.v (.int .i64 1)],.v (.bool true),.v (.int .i64 7),.arr 1 [.v (.int .i64 1)],.arr 0 [],.arr 1 [.v (.int .i64 1)],.arr 0 []],.v (.int .i64 1)]
def r25_0:AV:= .tuple [.fresh 8 1 [.v (.int .i64 1),.arr 2 [.v (.int .i64 2),.v (.int .i64 1)],.v (.bool false),.v (.int .i64 0),.arr 0 [],.arr 0 [],.arr 0 [],.arr 0 []],.v (.int .i64 0)]
theorem p25_0:k25 a25_0=some r25_0:=by kernel_rfl
def a25_1:List AV:=[.v (.int .i64 70),.agg [.v (.int .i64 0),.arr 0 [],.v (.bool false),.v (.bool false),.v (.bool false),.v (.bool false),.v (.bool false),.arr 0 [],.v (.bool false),.v (.int .u32 0),.v (.int .u32 0),.v (.int .u32 0),.v (.bool false),.v (.bool false),.v (.bool false),.v (.int .i64 0),.v (.int .i64 0),.v (.bool false),.v (.bool false),.v (.int .i64 0),.arr 0 [],.arr 0 [],.arr 0 [],.arr 0 [],.v (.int .i64 0),.v (.bool false),.v (.bool false),.v (.int .i64 0),.v (.int .i64 0),.v (.int .i64 0),.v (.bool false),.v (.int .i64 0),.arr 0 [],.arr 0 [],.arr 0 [],.arr 0 []],.arr 1 [.v (.int .i64 1),.arr 1 [.v (.int .i64 3)],.v (.bool true),.v (.int .i64 1),.arr 1 [.v (.int .i64 3)],.arr 3 [.v (.int .u32 1065353216),.v (.int .u32 2143289344),.v (.int .u32 2139095040)],.arr 0 [],.arr 0 []],.v (.int .i64 1)]
def r25_1:AV:= .tuple [.fresh 8 1 [.v (.int .i64 7),.arr 0 [],.v (.bool false),.v (.int .i64 0),.arr 0 [],.arr 0 [],.arr 0 [],.arr 0 []],.v (.int .i64 0)]
theorem p25_1:k25 a25_1=some r25_1:=by kernel_rfl
def a25_2:List AV:=[.v (.int .i64 76),.agg [.v (.int .i64 0),.arr 0 [],.v (.bool false),.v (.bool false),.v (.bool false),.v (.bool false),.v (.bool false),.arr 0 [],.v (.bool false),.v (.int .u32 0),.v (.int .u32 0),.v (.int .u32 0),.v (.bool false),.v (.bool false),.v (.bool false),.v (.int .i64 0),.v (.int .i64 0),.v (.bool false),.v (.bool false),.v (.int .i64 0),.arr 2 [.v (.int .i64 1),.v (.int .i64 2)],.arr 0 [],.arr 4 [.v (.int .i64 0),.v (.int .i64 1),.v (.int .i64 0),.v (.int .i64 0)],.arr 0 [],.v (.int .i64 0),.v (.bool false),.v (.bool false),.v (.int .i64 0),.v (.int .i64 0),.v (.int .i64 0),.v (.bool false),.v (.int .i64 0),.arr 0 [],.arr 0 [],.arr 0 [],.arr 0 []],.arr 1 [.v (.int .i64 1),.arr 4 [.v (.int .i64 1),.v (.int .i64 1),.v (.int .i64 1),.v (.int .i64 3)],.v (.bool true),.v (.int .i64 1),.arr 4 [.v (.int .i64 1),.v (.int .i64 1),.v (.int .i64 1),.v (.int .i64 3)],.arr 3 [.v (.int .u32 1065353216),.v (.int .u32 1073741824),.v (.int .u32 1077936128)],.arr 0 [],.arr 0 []],.v (.int .i64 1)]
def r25_2:AV:= .tuple [.fresh 8 1 [.v (.int .i64 1),.arr 4 [.v (.int .i64 1),.v (.int .i64 1),.v (.int .i64 1),.v (.int .i64 3)],.v (.bool false),.v (.int .i64 0),.arr 0 [],.arr 0 [],.arr 0 [],.arr 0 []],.v (.int .i64 0)]
theorem p25_2:k25 a25_2=some r25_2:=by kernel_rfl
def a25_3:List AV:=[.v (.int .i64 72),.agg [.v (.int .i64 0),.arr 0 [],.v (.bool false),.v (.bool false),.v (.bool false),.v (.bool false),.v (.bool false),.arr 0 [],.v (.bool false),.v (.int .u32 0),.v (.int .u32 0),.v (.int .u32 0),.v (.bool false),.v (.bool false),.v (.bool false),.v (.int .i64 0),.v (.int .i64 0),.v (.bool false),.v (.bool false),.v (.int .i64 0),.arr 0 [],.arr 0 [],.arr 0 [],.arr 0 [],.v (.int .i64 0),.v (.bool false),.v (.bool false),.v (.int .i64 0),.v (.int .i64 0),.v (.int .i64 0),.v (.bool false),.v (.int .i64 0),.arr 0 [],.arr 0 [],.arr 0 [],.arr 0 []],.arr 1 [.v (.int .i64 1),.arr 1 [.v (.int .i64 2)],.v (.bool true),.v (.int .i64 1),.arr 1 [.v (.int .i64 2)],.arr 2 [.v (.int .u32 0),.v (.int .u32 0)],.arr 0 [],.arr 0 []],.v (.int .i64 1)]
def r25_3:AV:= .tuple [.fresh 8 1 [.v (.int .i64 1),.arr 1 [.v (.int .i64 2)],.v (.bool false),.v (.int .i64 0),.arr 0 [],.arr 0 [],.arr 0 [],.arr 0 []],.v (.int .i64 0)]
theorem p25_3:k25 a25_3=some r25_3:=by kernel_rfl
noncomputable def z25:List AV->Option AV:=λxs=>if sameL (sameA 8) xs a25_0=true then some r25_0 else if sameL (sameA 8) xs a25_1=true then some r25_1 else if sameL (sameA 8) xs a25_2=true then some r25_2 else if sameL (sameA 8) xs a25_3=true then some r25_3 else k25 xs
noncomputable def c82:CallP:=orC 25 z25 c81
theorem k25_ok(args:List AV)(r:AV)(h:k25 args=some r):PureOK Tryz.prog 25 args r:=by
  unfold k25 at h
  exact bodyP_ok mixed c81_ok q1_ok i25 h
theorem c82_ok:CpOK Tryz.prog c82:=orC_ok c81_ok fun args r h=>by
  unfold z25 at h
  by_cases h0:sameL (sameA 8) args a25_0=true
  · rw[if_pos h0]at h;injection h with h;subst h;rw[sameL_eq (sameA_eq 8) h0];exact k25_ok _ _ p25_0
  rw[if_neg h0]at h
  by_cases h1:sameL (sameA 8) args a25_1=true
  · rw[if_pos h1]at h;injection h with h;subst h;rw[sameL_eq (sameA_eq 8) h1];exact k25_ok _ _ p25_1
  rw[if_neg h1]at h
  by_cases h2:sameL (sameA 8) args a25_2=true
  · rw[if_pos h2]at h;injection h with h;subst h;rw[sameL_eq (sameA_eq 8) h2];exact k25_ok _ _ p25_2
  rw[if_neg h2]at h
  by_cases h3:sameL (sameA 8) args a25_3=true
  · rw[if_pos h3]at h;injection h with h;subst h;rw[sameL_eq (sameA_eq 8) h3];exact k25_ok _ _ p25_3
  rw[if_neg h3]at h
  exact k25_ok _ _ h
def d26:List (Nat×List Nat):=[(0,[2]),(0,[7,8,9]),(0,[8000003]),(0,[]),(0,[0]),(0,[]),(0,[]),(0,[]),(0,[11,12]),(0,[]),(0,[13]),(0,[]),(0,[14,15]),(0,[]),(8,[17,18,19,20,21,22,23,24]),(0,[]),(0,[5,6,25,26,27,28]),(0,[]),(0,[29]),(0,[]),(0,[3,30])]
noncomputable def n26:FInfo:=⟨bodyOf Tryz.f26,[.tmp 2],[54]⟩
theorem i26:finfo Tryz.prog 26 d26=some n26:=finfo_at Tryz.func26 rfl (by kernel_rfl) (by kernel_rfl)
noncomputable def c83:CallP:=orC 26 (λxs=>(bodyP Tryz.prog inl c82 q1 100 d26 n26 xs).bind (sealR 4)) c82
theorem c83_ok:CpOK Tryz.prog c83:=orC_ok c82_ok fun args r h=>by
  obtain⟨r0,h0,h1⟩:=Option.bind_eq_some_iff.1 h
  exact(bodyP_ok mixed c82_ok q1_ok i26 h0).sealed h1
def d27:List (Nat×List Nat):=[(0,[5]),(0,[6,26]),(0,[9,10]),(0,[]),(0,[12]),(0,[]),(0,[13,14,15,16,17]),(0,[]),(0,[18]),(0,[]),(0,[20,21]),(0,[]),(0,[1,7,22,23,24,25]),(0,[]),(0,[0]),(0,[]),(0,[27,28,29]),(0,[]),(0,[31]),(0,[]),(0,[32,33,34]),(0,[]),(0,[36]),(0,[]),(0,[37,38,39]),(0,[]),(0,[8,40])]
noncomputable def n27:FInfo:=⟨bodyOf Tryz.f27,[.cell 4 31,.tmp 5],[31,32]⟩
theorem i27:finfo Tryz.prog 27 d27=some n27:=finfo_at Tryz.func27 rfl (by kernel_rfl) (by kernel_rfl)
noncomputable def c84:CallP:=orC 27 (λxs=>bodyP Tryz.prog inl c83 q1 100 d27 n27 xs) c83
theorem c84_ok:CpOK Tryz.prog c84:=orC_ok c83_ok λargs r h=>bodyP_ok mixed c83_ok q1_ok i27 h
def d120:List (Nat×List Nat):=[(0,[2]),(0,[0,4,5]),(0,[6,7,8]),(0,[]),(0,[]),(0,[]),(0,[9,10,11]),(0,[]),(0,[12]),(0,[]),(0,[14,15]),(0,[]),(0,[16,17,18,19]),(0,[]),(0,[20,21,22,23,24,25]),(0,[]),(0,[3,26])]
noncomputable def n120:FInfo:=⟨bodyOf Tryz.f120,[.tmp 2],[27]⟩
theorem i120:finfo Tryz.prog 120 d120=some n120:=finfo_at Tryz.func120 rfl (by kernel_rfl) (by kernel_rfl)
noncomputable def c85:CallP:=orC 120 (λxs=>bodyP Tryz.prog inl c84 q1 100 d120 n120 xs) c84
theorem c85_ok:CpOK Tryz.prog c85:=orC_ok c84_ok λargs r h=>bodyP_ok mixed c84_ok q1_ok i120 h
def d54:List (Nat×List Nat):=[(0,[2,3]),(0,[]),(0,[4,6,7,8,9,10]),(0,[]),(0,[11]),(0,[]),(0,[13]),(0,[]),(0,[0,5,14,15])]
noncomputable def n54:FInfo:=⟨bodyOf Tryz.f54,[.tmp 2,.tmp 3],[27,32]⟩
theorem i54:finfo Tryz.prog 54 d54=some n54:=finfo_at Tryz.func54 rfl (by kernel_rfl) (by kernel_rfl)
noncomputable def c86:CallP:=orC 54 (λxs=>bodyP Tryz.prog inl c85 q1 100 d54 n54 xs) c85
theorem c86_ok:CpOK Tryz.prog c86:=orC_ok c85_ok λargs r h=>bodyP_ok mixed c85_ok q1_ok i54 h
def d62:List (Nat×List Nat):=[(0,[4]),(0,[]),(0,[0,1,5,6,7,8,9,10,11,12,13,14,15,16,17,18,19,20,21,22])]
noncomputable def n62:FInfo:=⟨bodyOf Tryz.f62,[.tmp 4],[4]⟩
theorem i62:finfo Tryz.prog 62 d62=some n62:=finfo_at Tryz.func62 rfl (by kernel_rfl) (by kernel_rfl)
noncomputable def c87:CallP:=orC 62 (λxs=>bodyP Tryz.prog inl c86 q1 100 d62 n62 xs) c86
theorem c87_ok:CpOK Tryz.prog c87:=orC_ok c86_ok λargs r h=>bodyP_ok mixed c86_ok q1_ok i62 h
def d184:List (Nat×List Nat):=[(0,[0,2,3]),(0,[4]),(0,[8,9]),(0,[24,25,26]),(0,[11,12]),(0,[]),(0,[13]),(0,[]),(0,[15,16,17]),(0,[]),(0,[]),(0,[]),(0,[19,20,21,22]),(0,[]),(0,[]),(0,[]),(0,[1000005]),(0,[]),(0,[1,23]),(0,[]),(0,[]),(0,[]),(0,[28,29]),(0,[]),(0,[7,30,31,32,33]),(0,[]),(0,[34]),(0,[]),(0,[5,35])]
noncomputable def n184:FInfo:=⟨bodyOf Tryz.f184,[.tmp 2,.tmp 3],[27,32]⟩
theorem i184:finfo Tryz.prog 184 d184=some n184:=finfo_at Tryz.func184 rfl (by kernel_rfl) (by kernel_rfl)
noncomputable def c88:CallP:=orC 184 (λxs=>bodyP Tryz.prog inl c87 q1 100 d184 n184 xs) c87
theorem c88_ok:CpOK Tryz.prog c88:=orC_ok c87_ok λargs r h=>bodyP_ok mixed c87_ok q1_ok i184 h
def d108:List (Nat×List Nat):=[(0,[2]),(0,[23,24]),(13,[9,10,11,12,13,14,15,16,17,18,19]),(0,[5]),(0,[20,21,22]),(0,[]),(0,[25]),(0,[84,85]),(0,[26]),(0,[]),(0,[27]),(0,[]),(0,[28,29,30,31,32,33]),(0,[]),(0,[35]),(0,[]),(0,[]),(0,[]),(0,[36]),(0,[]),(0,[38,39,40,41,42,43,44,45,46,47]),(0,[]),(0,[49]),(0,[]),(0,[1000003]),(0,[]),(0,[]),(0,[]),(0,[50,51]),(0,[]),(0,[53,54]),(0,[]),(0,[55,56,57,58]),(0,[]),(0,[4,7,59,60,61,62,63,64]),(0,[]),(0,[0,3,65,66,67,68,69,70,71,72,73,74,75,76,77,78,79,80,81]),(0,[]),(0,[83]),(0,[]),(0,[]),(0,[]),(0,[87]),(0,[]),(0,[8,88,89,90]),(0,[]),(0,[91]),(0,[]),(0,[6,92]),(1,[])]
noncomputable def n108:FInfo:=⟨bodyOf Tryz.f108,[.tmp 2],[29]⟩
theorem i108:finfo Tryz.prog 108 d108=some n108:=finfo_at Tryz.func108 rfl (by kernel_rfl) (by kernel_rfl)
noncomputable def c89:CallP:=orC 108 (λxs=>bodyP Tryz.prog inl c88 q1 100 d108 n108 xs) c88
theorem c89_ok:CpOK Tryz.prog c89:=orC_ok c88_ok λargs r h=>bodyP_ok mixed c88_ok q1_ok i108 h
def d109:List (Nat×List Nat):=[(0,[4]),(0,[1,13,14,15]),(0,[12]),(0,[]),(0,[0]),(0,[6,7,20,21,22]),(0,[]),(0,[]),(0,[17,18,19]),(0,[10,26,27]),(0,[]),(0,[]),(0,[]),(0,[]),(0,[]),(0,[]),(0,[24,25]),(0,[]),(0,[]),(0,[]),(0,[]),(0,[]),(0,[29]),(0,[]),(0,[11,30,31,32,33,34,35,36,37,38,39,40]),(0,[]),(0,[41]),(0,[]),(0,[42]),(0,[]),(0,[8,43]),(0,[]),(0,[44]),(0,[]),(0,[5,45])]
noncomputable def n109:FInfo:=⟨bodyOf Tryz.f109,[.tmp 4],[27]⟩
theorem i109:finfo Tryz.prog 109 d109=some n109:=finfo_at Tryz.func109 rfl (by kernel_rfl) (by kernel_rfl)
noncomputable def c90:CallP:=orC 109 (λxs=>bodyP Tryz.prog inl c89 q1 100 d109 n109 xs) c89
theorem c90_ok:CpOK Tryz.prog c90:=orC_ok c89_ok λargs r h=>bodyP_ok mixed c89_ok q1_ok i109 h
def d110:List (Nat×List Nat):=[(0,[1,2,10,11]),(0,[0,3,12,13,14]),(0,[]),(0,[]),(0,[16,17,18]),(0,[6,19,20,21]),(0,[]),(0,[]),(0,[]),(0,[]),(0,[]),(0,[]),(0,[23,24]),(0,[]),(0,[9,25,26,27,28,29,30]),(0,[]),(0,[31]),(0,[]),(0,[5,7,32,33,34,35]),(0,[]),(0,[37])]
noncomputable def n110:FInfo:=⟨bodyOf Tryz.f110,[],[]⟩
theorem i110:finfoY Tryz.prog 110 d110=some n110:=finfoY_at Tryz.func110 rfl (by kernel_rfl) (by kernel_rfl) (by kernel_rfl)
noncomputable def q2:CallI:=ciY 110 (λxs=>bodyY Tryz.prog inl c90 q1 100 d110 n110 xs) q1
theorem q2_ok:CiOK Tryz.prog q2:=ciY_ok q1_ok λxs ys h=>bodyY_ok mixed c90_ok q1_ok i110 h
def d47:List (Nat×List Nat):=[(0,[2]),(0,[3,8,28,29,30]),(0,[13,14]),(0,[10,11]),(0,[1000005,4001000004]),(0,[]),(0,[1000007,4001000006]),(0,[]),(0,[9,15,16,17,18,19,20,21,22,23,1000000008]),(0,[]),(0,[0,24,25,26,27]),(0,[]),(0,[]),(0,[]),(0,[32,33,34]),(0,[]),(0,[35,36,37]),(0,[]),(3533694129556768659166609616502210340684149830609236485630325995310319728,[39,40,41,42,43,44,45,46,47,48,49]),(0,[]),(3533694129556768659166609616502210340684149830609236485630325995310319728,[50,51,52,53,54,55,56,57,58,59,60]),(0,[]),(0,[61]),(0,[]),(0,[5,7,62,63,64]),(0,[]),(0,[4,6,12,65])]
noncomputable def n47:FInfo:=⟨bodyOf Tryz.f47,[.tmp 2],[74]⟩
theorem i47:finfo Tryz.prog 47 d47=some n47:=finfo_at Tryz.func47 rfl (by kernel_rfl) (by kernel_rfl)
noncomputable def q3:CallI:=ciE Tryz.prog inl c90 q2 100 47 d47 n47 q2
theorem q3_ok:CiOK Tryz.prog q3:=ciE_ok mixed c90_ok q2_ok i47 q2_ok
def d48:List (Nat×List Nat):=[(0,[6]),(0,[]),(0,[11,12,13,14,15]),(0,[]),(18,[17,18,19,20,21,22,23,24,25,26,27,28,29,30,31,32]),(0,[]),(0,[33,34,35,36]),(0,[]),(0,[38,39]),(0,[]),(0,[7,8,40,41,42,43,44,45,46,47,48,49,50,51,52,53,54]),(0,[]),(18,[1,2,55,56,57,58,59,60,61,62,63,64,65,66,67,68,69,70]),(0,[]),(0,[71,72,73,74,75]),(0,[]),(0,[77,78,79,80,81,82,83,84,85,86,87,88,89,90]),(0,[]),(0,[91,92,93,94]),(0,[]),(0,[96,97]),(0,[]),(0,[0,9,10,98,99,100,101,102,103,104,105,106,107,108,109,110,111,112])]
noncomputable def n48:FInfo:=⟨bodyOf Tryz.f48,[.tmp 6],[4]⟩
theorem i48:finfo Tryz.prog 48 d48=some n48:=finfo_at Tryz.func48 rfl (by kernel_rfl) (by kernel_rfl)
noncomputable def c91:CallP:=orC 48 (λxs=>bodyP Tryz.prog inl c90 q3 100 d48 n48 xs) c90
theorem c91_ok:CpOK Tryz.prog c91:=orC_ok c90_ok λargs r h=>bodyP_ok mixed c90_ok q3_ok i48 h
def d28:List (Nat×List Nat):=[(0,[0]),(0,[1,7]),(0,[6]),(0,[]),(0,[7,8]),(0,[3,11,12]),(0,[9]),(0,[5]),(0,[]),(0,[]),(0,[10]),(0,[]),(0,[]),(0,[]),(0,[14]),(0,[]),(14,[15,16,17,18,19,20,21,22,23,24,25,26,27]),(0,[]),(0,[29]),(0,[]),(0,[30]),(0,[]),(0,[1,2,4,31,32,33,34,35,36,37,38])]
noncomputable def n28:FInfo:=⟨bodyOf Tryz.f28,[],[]⟩
theorem i28:finfo Tryz.prog 28 d28=some n28:=finfo_at Tryz.func28 rfl (by kernel_rfl) (by kernel_rfl)
noncomputable def q4:CallI:=ciE Tryz.prog inl c91 q3 100 28 d28 n28 q3
theorem q4_ok:CiOK Tryz.prog q4:=ciE_ok mixed c91_ok q3_ok i28 q3_ok
def d49:List (Nat×List Nat):=[(0,[4]),(0,[0,8,9,10]),(0,[]),(0,[]),(0,[1]),(0,[]),(0,[]),(0,[]),(0,[12,13]),(0,[]),(0,[7,14,15,16,17,18,19,20]),(0,[]),(0,[21]),(0,[]),(0,[5,22])]
noncomputable def n49:FInfo:=⟨bodyOf Tryz.f49,[.tmp 4],[22]⟩
theorem i49:finfo Tryz.prog 49 d49=some n49:=finfo_at Tryz.func49 rfl (by kernel_rfl) (by kernel_rfl)
noncomputable def c92:CallP:=orC 49 (λxs=>bodyP Tryz.prog inl c91 q4 100 d49 n49 xs) c91
theorem c92_ok:CpOK Tryz.prog c92:=orC_ok c91_ok λargs r h=>bodyP_ok mixed c91_ok q4_ok i49 h
def d189:List (Nat×List Nat):=[(0,[]),(0,[]),(0,[5,6,7,8]),(0,[]),(0,[9,10,11]),(0,[]),(0,[12]),(0,[]),(0,[14,15,16,17,18]),(0,[]),(0,[0,3,4,19,20,21,22,23,24,25,26])]
noncomputable def n189:FInfo:=⟨bodyOf Tryz.f189,[.cell 2 165],[165]⟩
theorem i189:finfo Tryz.prog 189 d189=some n189:=finfo_at Tryz.func189 rfl (by kernel_rfl) (by kernel_rfl)
noncomputable def c93:CallP:=orC 189 (λxs=>bodyP Tryz.prog inl c92 q4 100 d189 n189 xs) c92
theorem c93_ok:CpOK Tryz.prog c93:=orC_ok c92_ok λargs r h=>bodyP_ok mixed c92_ok q4_ok i189 h
def d190:List (Nat×List Nat):=[(0,[2]),(0,[]),(0,[0,3,4,5])]
noncomputable def n190:FInfo:=⟨bodyOf Tryz.f190,[.tmp 2],[4]⟩
theorem i190:finfo Tryz.prog 190 d190=some n190:=finfo_at Tryz.func190 rfl (by kernel_rfl) (by kernel_rfl)
noncomputable def c94:CallP:=orC 190 (λxs=>bodyP Tryz.prog inl c93 q4 100 d190 n190 xs) c93
theorem c94_ok:CpOK Tryz.prog c94:=orC_ok c93_ok λargs r h=>bodyP_ok mixed c93_ok q4_ok i190 h
def d186:List (Nat×List Nat):=[(0,[4]),(0,[9]),(0,[10]),(0,[]),(0,[]),(0,[]),(0,[12,13]),(0,[]),(0,[14,15,16,17,18,19,20,21,22,23,24]),(0,[]),(0,[26]),(0,[]),(0,[27,28,29,30,31,32]),(0,[]),(9,[33,34,35,36,37,38,39,40]),(0,[]),(0,[41]),(0,[]),(0,[43]),(0,[]),(0,[0]),(0,[]),(0,[44,45]),(0,[]),(0,[47,48,49,50,51]),(0,[]),(0,[53,54,55]),(0,[]),(0,[]),(0,[]),(0,[57,58,59]),(0,[]),(0,[]),(0,[]),(0,[1,7,8,60,61,62,63,64,65,66]),(0,[]),(0,[68,69]),(0,[]),(0,[5,6,70,71,72,73])]
noncomputable def n186:FInfo:=⟨bodyOf Tryz.f186,[.tmp 4],[24]⟩
theorem i186:finfo Tryz.prog 186 d186=some n186:=finfo_at Tryz.func186 rfl (by kernel_rfl) (by kernel_rfl)
noncomputable def c95:CallP:=orC 186 (λxs=>bodyP Tryz.prog inl c94 q4 100 d186 n186 xs) c94
theorem c95_ok:CpOK Tryz.prog c95:=orC_ok c94_ok λargs r h=>bodyP_ok mixed c94_ok q4_ok i186 h
def d113:List (Nat×List Nat):=[(0,[2]),(0,[]),(0,[0,3,4])]
noncomputable def n113:FInfo:=⟨bodyOf Tryz.f113,[.tmp 2],[24]⟩
theorem i113:finfo Tryz.prog 113 d113=some n113:=finfo_at Tryz.func113 rfl (by kernel_rfl) (by kernel_rfl)
noncomputable def c96:CallP:=orC 113 (λxs=>bodyP Tryz.prog inl c95 q4 100 d113 n113 xs) c95
theorem c96_ok:CpOK Tryz.prog c96:=orC_ok c95_ok λargs r h=>bodyP_ok mixed c95_ok q4_ok i113 h
def d204:List (Nat×List Nat):=[(0,[2]),(0,[]),(0,[0]),(0,[]),(0,[]),(0,[]),(0,[])]
noncomputable def n204:FInfo:=⟨bodyOf Tryz.f204,[.tmp 2],[24]⟩
theorem i204:finfo Tryz.prog 204 d204=some n204:=finfo_at Tryz.func204 rfl (by kernel_rfl) (by kernel_rfl)
noncomputable def c97:CallP:=orC 204 (λxs=>bodyP Tryz.prog inl c96 q4 100 d204 n204 xs) c96
theorem c97_ok:CpOK Tryz.prog c97:=orC_ok c96_ok λargs r h=>bodyP_ok mixed c96_ok q4_ok i204 h
def d188:List (Nat×List Nat):=[(0,[8]),(0,[9]),(0,[15,16,17,18,19,20]),(0,[3,10]),(0,[21,22,23,24,25]),(0,[]),(0,[27,28,29,30,31,32,33,34,35,36,37,38,39,40,41,42]),(0,[]),(0,[]),(0,[]),(0,[44,45,46,47,48,49,50,51,52,53,54,55]),(0,[]),(0,[]),(0,[]),(0,[57]),(0,[]),(0,[58,59,60]),(0,[]),(0,[62,63]),(0,[]),(0,[64]),(0,[]),(0,[1,2,65,66,67,68,69,70]),(0,[]),(0,[11,12,71,72,73,74,75,76,77,78,79,80,81,82]),(0,[]),(0,[84,85,86,87,88,89,90,91]),(0,[]),(0,[92,93,94]),(0,[]),(0,[96]),(0,[]),(0,[97,98,99]),(0,[]),(0,[101,102,103]),(0,[]),(0,[104]),(0,[]),(0,[106,107,108]),(0,[]),(0,[109,110,111,112,113,114,115]),(0,[]),(0,[0,13,14,116,117,118,119])]
noncomputable def n188:FInfo:=⟨bodyOf Tryz.f188,[.tmp 8],[24]⟩
theorem i188:finfo Tryz.prog 188 d188=some n188:=finfo_at Tryz.func188 rfl (by kernel_rfl) (by kernel_rfl)
noncomputable def c98:CallP:=orC 188 (λxs=>bodyP Tryz.prog inl c97 q4 100 d188 n188 xs) c97
theorem c98_ok:CpOK Tryz.prog c98:=orC_ok c97_ok λargs r h=>bodyP_ok mixed c97_ok q4_ok i188 h
def d114:List (Nat×List Nat):=[(0,[6]),(0,[]),(0,[0,1,2,7,8,9,10])]
noncomputable def n114:FInfo:=⟨bodyOf Tryz.f114,[.tmp 6],[24]⟩
theorem i114:finfo Tryz.prog 114 d114=some n114:=finfo_at Tryz.func114 rfl (by kernel_rfl) (by kernel_rfl)
noncomputable def c99:CallP:=orC 114 (λxs=>bodyP Tryz.prog inl c98 q4 100 d114 n114 xs) c98
theorem c99_ok:CpOK Tryz.prog c99:=orC_ok c98_ok λargs r h=>bodyP_ok mixed c98_ok q4_ok i114 h
def d115:List (Nat×List Nat):=[(0,[2]),(0,[]),(0,[0,3,4])]
noncomputable def n115:FInfo:=⟨bodyOf Tryz.f115,[.tmp 2],[24]⟩
theorem i115:finfo Tryz.prog 115 d115=some n115:=finfo_at Tryz.func115 rfl (by kernel_rfl) (by kernel_rfl)
noncomputable def c100:CallP:=orC 115 (λxs=>bodyP Tryz.prog inl c99 q4 100 d115 n115 xs) c99
theorem c100_ok:CpOK Tryz.prog c100:=orC_ok c99_ok λargs r h=>bodyP_ok mixed c99_ok q4_ok i115 h
def d116:List (Nat×List Nat):=[(0,[4]),(0,[0,12,13,14]),(0,[8,9,10]),(0,[]),(0,[1,11]),(0,[]),(0,[]),(0,[]),(0,[16,17]),(0,[]),(0,[7,18,19,20,21]),(0,[]),(0,[22]),(0,[]),(0,[5,23])]
noncomputable def n116:FInfo:=⟨bodyOf Tryz.f116,[.tmp 4],[24]⟩
theorem i116:finfo Tryz.prog 116 d116=some n116:=finfo_at Tryz.func116 rfl (by kernel_rfl) (by kernel_rfl)
noncomputable def c101:CallP:=orC 116 (λxs=>bodyP Tryz.prog inl c100 q4 100 d116 n116 xs) c100
theorem c101_ok:CpOK Tryz.prog c101:=orC_ok c100_ok λargs r h=>bodyP_ok mixed c100_ok q4_ok i116 h
def d117:List (Nat×List Nat):=[(0,[4]),(0,[]),(0,[6]),(0,[]),(0,[]),(0,[]),(0,[8,9]),(0,[]),(0,[10,11,12,13,14,15]),(0,[]),(0,[17]),(0,[]),(0,[0,1,5,18,19,20,21,22,23,24,25,26,27,28])]
noncomputable def n117:FInfo:=⟨bodyOf Tryz.f117,[.tmp 4],[24]⟩
theorem i117:finfo Tryz.prog 117 d117=some n117:=finfo_at Tryz.func117 rfl (by kernel_rfl) (by kernel_rfl)
noncomputable def c102:CallP:=orC 117 (λxs=>bodyP Tryz.prog inl c101 q4 100 d117 n117 xs) c101
theorem c102_ok:CpOK Tryz.prog c102:=orC_ok c101_ok λargs r h=>bodyP_ok mixed c101_ok q4_ok i117 h
def d118:List (Nat×List Nat):=[(0,[2]),(0,[]),(0,[5]),(0,[]),(0,[]),(0,[]),(0,[7,8]),(0,[]),(0,[0,9,10]),(0,[]),(0,[12]),(0,[]),(0,[]),(0,[]),(0,[]),(0,[]),(0,[14,15,16]),(0,[]),(0,[17,18]),(0,[]),(0,[20,21,22,23]),(0,[]),(0,[24,25,26,27,28]),(0,[]),(0,[3,29]),(0,[]),(0,[31,32]),(0,[]),(0,[4,33])]
noncomputable def n118:FInfo:=⟨bodyOf Tryz.f118,[.tmp 2],[2]⟩
theorem i118:finfo Tryz.prog 118 d118=some n118:=finfo_at Tryz.func118 rfl (by kernel_rfl) (by kernel_rfl)
noncomputable def c103:CallP:=orC 118 (λxs=>bodyP Tryz.prog inl c102 q4 100 d118 n118 xs) c102
theorem c103_ok:CpOK Tryz.prog c103:=orC_ok c102_ok λargs r h=>bodyP_ok mixed c102_ok q4_ok i118 h
def d51:List (Nat×List Nat):=[(0,[2]),(0,[]),(0,[7,8]),(0,[]),(0,[]),(0,[]),(0,[10,11]),(0,[]),(0,[]),(0,[]),(0,[13,14]),(0,[]),(0,[]),(0,[]),(0,[15,16,17]),(0,[]),(0,[0,18,19,20,21,22,23,24]),(0,[]),(0,[4,25,26,27]),(0,[]),(0,[3,5,28,29,30,31])]
noncomputable def n51:FInfo:=⟨bodyOf Tryz.f51,[.tmp 2],[24]⟩
theorem i51:finfo Tryz.prog 51 d51=some n51:=finfo_at Tryz.func51 rfl (by kernel_rfl) (by kernel_rfl)
noncomputable def c104:CallP:=orC 51 (λxs=>bodyP Tryz.prog inl c103 q4 100 d51 n51 xs) c103
theorem c104_ok:CpOK Tryz.prog c104:=orC_ok c103_ok λargs r h=>bodyP_ok mixed c103_ok q4_ok i51 h
def d52:List (Nat×List Nat):=[(0,[4]),(0,[]),(0,[0,1,5,6,7,8])]
noncomputable def n52:FInfo:=⟨bodyOf Tryz.f52,[.tmp 4],[24]⟩
theorem i52:finfo Tryz.prog 52 d52=some n52:=finfo_at Tryz.func52 rfl (by kernel_rfl) (by kernel_rfl)
noncomputable def c105:CallP:=orC 52 (λxs=>bodyP Tryz.prog inl c104 q4 100 d52 n52 xs) c104
theorem c105_ok:CpOK Tryz.prog c105:=orC_ok c104_ok λargs r h=>bodyP_ok mixed c104_ok q4_ok i52 h
def d191:List (Nat×List Nat):=[(0,[0]),(0,[]),(0,[4,5,6,7]),(0,[]),(0,[8,9,10,11,12]),(0,[]),(0,[3,13,14,15,16,17]),(0,[]),(0,[1,18])]
noncomputable def n191:FInfo:=⟨bodyOf Tryz.f191,[.cell 2 91],[91]⟩
theorem i191:finfo Tryz.prog 191 d191=some n191:=finfo_at Tryz.func191 rfl (by kernel_rfl) (by kernel_rfl)
noncomputable def c106:CallP:=orC 191 (λxs=>bodyP Tryz.prog inl c105 q4 100 d191 n191 xs) c105
theorem c106_ok:CpOK Tryz.prog c106:=orC_ok c105_ok λargs r h=>bodyP_ok mixed c105_ok q4_ok i191 h
def d119:List (Nat×List Nat):=[(0,[6]),(0,[10,11]),(0,[1,2,14,15,16,17]),(0,[]),(0,[18,19,20,21,22]),(0,[]),(18,[23,24,25,26,27,28,29,30,31,32,33,34,35,36,37,38]),(0,[]),(0,[40,41,42,43,44,45,46,47,48,49,50,51,52,53,54,55,56,57,58,59]),(0,[]),(0,[]),(0,[]),(0,[61,62,63,64,65]),(0,[]),(0,[66,67,68]),(0,[]),(0,[70,71,72,73,74]),(0,[]),(0,[75,76]),(0,[]),(4,[77,78,79,80]),(0,[]),(14,[81,82,83,84,85,86,87,88,89,90,91,92]),(0,[]),(0,[0,7,8,9,12,13,93,94,95,96,97,98,99,100,101,102,103,104])]
noncomputable def n119:FInfo:=⟨bodyOf Tryz.f119,[.tmp 6],[24]⟩
theorem i119:finfo Tryz.prog 119 d119=some n119:=finfo_at Tryz.func119 rfl (by kernel_rfl) (by kernel_rfl)
noncomputable def c107:CallP:=orC 119 (λxs=>bodyP Tryz.prog inl c106 q4 100 d119 n119 xs) c106
theorem c107_ok:CpOK Tryz.prog c107:=orC_ok c106_ok λargs r h=>bodyP_ok mixed c106_ok q4_ok i119 h
def d53:List (Nat×List Nat):=[(0,[4]),(0,[]),(0,[0,1,5,6,7])]
noncomputable def n53:FInfo:=⟨bodyOf Tryz.f53,[.tmp 4],[24]⟩
theorem i53:finfo Tryz.prog 53 d53=some n53:=finfo_at Tryz.func53 rfl (by kernel_rfl) (by kernel_rfl)
noncomputable def c108:CallP:=orC 53 (λxs=>bodyP Tryz.prog inl c107 q4 100 d53 n53 xs) c107
theorem c108_ok:CpOK Tryz.prog c108:=orC_ok c107_ok λargs r h=>bodyP_ok mixed c107_ok q4_ok i53 h
def d29:List (Nat×List Nat):=[(0,[0]),(0,[1,12]),(0,[11]),(0,[1,3,4]),(0,[12,13,14]),(0,[5,31,32,33]),(0,[15,16,17,18,19,20,21]),(0,[]),(0,[22,23]),(0,[1,4,8,48,49,50]),(7,[25,26,27,28,29,30]),(0,[]),(0,[]),(0,[]),(0,[]),(0,[]),(0,[35,36,37]),(0,[]),(0,[6,7,38,39,40,41,42,43,44]),(0,[]),(0,[45]),(0,[]),(0,[46,47]),(0,[]),(0,[3]),(0,[]),(0,[]),(0,[]),(0,[52,53,54]),(0,[]),(13,[9,10,55,56,57,58,59,60,61,62,63,64,65,66,67]),(0,[]),(0,[68])]
noncomputable def n29:FInfo:=⟨bodyOf Tryz.f29,[],[]⟩
theorem i29:finfo Tryz.prog 29 d29=some n29:=finfo_at Tryz.func29 rfl (by kernel_rfl) (by kernel_rfl)
noncomputable def q5:CallI:=ciE Tryz.prog inl c108 q4 100 29 d29 n29 q4
theorem q5_ok:CiOK Tryz.prog q5:=ciE_ok mixed c108_ok q4_ok i29 q4_ok
def d55:List (Nat×List Nat):=[(0,[4,5]),(0,[1,30,31,32]),(0,[11,12,13,14,15]),(0,[]),(0,[16]),(0,[]),(0,[18]),(0,[]),(0,[6,7,19,20,21,22,23,24]),(0,[]),(0,[]),(0,[]),(0,[26,27,28]),(0,[]),(0,[0,29]),(0,[]),(0,[]),(0,[]),(0,[34,35,36]),(0,[]),(0,[9,37,38,39,40,41,42]),(0,[]),(0,[10,43,44,45]),(0,[]),(0,[46]),(0,[]),(0,[8,47])]
noncomputable def n55:FInfo:=⟨bodyOf Tryz.f55,[.tmp 4,.tmp 5],[27,32]⟩
theorem i55:finfo Tryz.prog 55 d55=some n55:=finfo_at Tryz.func55 rfl (by kernel_rfl) (by kernel_rfl)
noncomputable def c109:CallP:=orC 55 (λxs=>bodyP Tryz.prog inl c108 q5 100 d55 n55 xs) c108
theorem c109_ok:CpOK Tryz.prog c109:=orC_ok c108_ok λargs r h=>bodyP_ok mixed c108_ok q5_ok i55 h
def d121:List (Nat×List Nat):=[(0,[6]),(0,[]),(0,[7,8]),(0,[]),(0,[10]),(0,[]),(0,[0,1,2,11,12,13,14])]
noncomputable def n121:FInfo:=⟨bodyOf Tryz.f121,[.tmp 6],[3]⟩
theorem i121:finfo Tryz.prog 121 d121=some n121:=finfo_at Tryz.func121 rfl (by kernel_rfl) (by kernel_rfl)
noncomputable def c110:CallP:=orC 121 (λxs=>bodyP Tryz.prog inl c109 q5 100 d121 n121 xs) c109
theorem c110_ok:CpOK Tryz.prog c110:=orC_ok c109_ok λargs r h=>bodyP_ok mixed c109_ok q5_ok i121 h
def d56:List (Nat×List Nat):=[(0,[6]),(0,[2,8,10,11,13,66,67]),(0,[18,19,20,21]),(0,[17]),(21,[0,22,23,24,25,26,27,28,29,30,31,32,33,34,35,36,37,38,39]),(0,[]),(0,[40,41,42,43]),(0,[]),(25,[1,7,12,14,44,45,46,47,48,49,50,51,52,53,54,55,56,57,58,59,60,61,62,63,64,65]),(0,[]),(0,[1000015]),(0,[]),(0,[9]),(0,[]),(0,[]),(0,[]),(0,[69]),(0,[]),(0,[16,70,71,72,73,74,75,76,77,78]),(0,[]),(0,[79,80,81,82,83,84]),(0,[]),(0,[86,87,88,89]),(0,[]),(0,[90]),(0,[]),(0,[15,91])]
noncomputable def n56:FInfo:=⟨bodyOf Tryz.f56,[.tmp 6],[27]⟩
theorem i56:finfo Tryz.prog 56 d56=some n56:=finfo_at Tryz.func56 rfl (by kernel_rfl) (by kernel_rfl)
noncomputable def c111:CallP:=orC 56 (λxs=>bodyP Tryz.prog inl c110 q5 100 d56 n56 xs) c110
theorem c111_ok:CpOK Tryz.prog c111:=orC_ok c110_ok λargs r h=>bodyP_ok mixed c110_ok q5_ok i56 h
def d30:List (Nat×List Nat):=[(0,[3,14,15,16,17,18,19,20,21,22]),(0,[0,2,28,29]),(0,[23,24,25,26,27]),(0,[4,8,13]),(0,[]),(0,[5,7,61,62,63]),(0,[31]),(0,[]),(0,[6,32,33,34,35,36,37,38,39,40,41]),(0,[10,71,72,73]),(16,[42,43,44,45,46,47,48,49,50,51,52,53,54,55,56]),(0,[]),(0,[1000008]),(0,[]),(0,[57,58,59,60]),(0,[]),(0,[]),(0,[]),(0,[65,66]),(0,[]),(0,[67,68,69,70]),(0,[]),(0,[]),(0,[]),(0,[75,76]),(0,[]),(18,[12,77,78,79,80,81,82,83,84,85,86,87,88,89,90,91,92,93,94,95]),(0,[]),(0,[96]),(0,[]),(0,[97]),(0,[]),(0,[98,99]),(0,[]),(0,[100,101,102,103]),(0,[]),(16,[105,106,107,108,109,110,111,112,113,114,115,116,117,118,119]),(0,[]),(0,[120,121,122,123]),(0,[]),(9,[125,126,127,128,129,130,131,132,133]),(0,[]),(12,[134,135,136,137,138,139,140,141,142,143,144,145]),(0,[]),(0,[146])]
noncomputable def n30:FInfo:=⟨bodyOf Tryz.f30,[],[]⟩
theorem i30:finfo Tryz.prog 30 d30=some n30:=finfo_at Tryz.func30 rfl (by kernel_rfl) (by kernel_rfl)
noncomputable def q6:CallI:=ciE Tryz.prog inl c111 q5 100 30 d30 n30 q5
theorem q6_ok:CiOK Tryz.prog q6:=ciE_ok mixed c111_ok q5_ok i30 q5_ok
def d63:List (Nat×List Nat):=[(0,[2]),(0,[3]),(0,[0]),(0,[]),(0,[5]),(0,[]),(0,[]),(0,[]),(0,[7]),(0,[]),(0,[]),(0,[]),(0,[9]),(0,[]),(0,[]),(0,[]),(0,[11]),(0,[]),(0,[]),(0,[]),(0,[])]
noncomputable def n63:FInfo:=⟨bodyOf Tryz.f63,[.tmp 2],[25]⟩
theorem i63:finfo Tryz.prog 63 d63=some n63:=finfo_at Tryz.func63 rfl (by kernel_rfl) (by kernel_rfl)
noncomputable def c112:CallP:=orC 63 (λxs=>bodyP Tryz.prog inl c111 q6 100 d63 n63 xs) c111
theorem c112_ok:CpOK Tryz.prog c112:=orC_ok c111_ok λargs r h=>bodyP_ok mixed c111_ok q6_ok i63 h
def d64:List (Nat×List Nat):=[(0,[2]),(0,[3]),(0,[0]),(0,[]),(0,[5]),(0,[]),(0,[]),(0,[]),(0,[7]),(0,[]),(0,[]),(0,[]),(0,[9]),(0,[]),(0,[]),(0,[]),(0,[])]
noncomputable def n64:FInfo:=⟨bodyOf Tryz.f64,[.tmp 2],[85]⟩
theorem i64:finfo Tryz.prog 64 d64=some n64:=finfo_at Tryz.func64 rfl (by kernel_rfl) (by kernel_rfl)
noncomputable def c113:CallP:=orC 64 (λxs=>bodyP Tryz.prog inl c112 q6 100 d64 n64 xs) c112
theorem c113_ok:CpOK Tryz.prog c113:=orC_ok c112_ok λargs r h=>bodyP_ok mixed c112_ok q6_ok i64 h
def d33:List (Nat×List Nat):=[(0,[0]),(0,[1,2,3,17]),(12,[6,7,8,9,10,11,12,13,14,15]),(0,[1,2,3,4,5]),(0,[16]),(0,[]),(0,[17,18]),(0,[]),(0,[19]),(0,[]),(0,[20,21,22,23,24]),(0,[]),(16,[26,27,28,29,30,31,32,33,34,35,36,37,38,39,40,41]),(0,[]),(16,[42,43,44,45,46,47,48,49,50,51,52,53,54,55,56,57])]
noncomputable def n33:FInfo:=⟨bodyOf Tryz.f33,[],[]⟩
theorem i33:finfo Tryz.prog 33 d33=some n33:=finfo_at Tryz.func33 rfl (by kernel_rfl) (by kernel_rfl)
noncomputable def q7:CallI:=ciE Tryz.prog inl c113 q6 100 33 d33 n33 q6
theorem q7_ok:CiOK Tryz.prog q7:=ciE_ok mixed c113_ok q6_ok i33 q6_ok
def d13:List (Nat×List Nat):=[(0,[1,7]),(0,[22,23,24]),(0,[14,15]),(0,[]),(0,[17]),(0,[85,88,97]),(0,[18,19,20,21,41005000008]),(0,[]),(0,[]),(0,[]),(0,[]),(0,[]),(0,[26,27]),(0,[]),(0,[28,29]),(0,[]),(0,[31,32]),(0,[]),(0,[33]),(0,[]),(0,[35,36]),(0,[]),(1008,[10,11,37,38,39,40,41,42,43,44,45,46,47]),(0,[]),(0,[48]),(0,[]),(10,[2,4,49,50,51,52,53,54,55,56]),(0,[]),(0,[57]),(0,[]),(0,[59,60]),(0,[]),(0,[13,61,62,63,64,65,66,67,68,69]),(0,[]),(23384026197294446691298571404717660483291694666880,[12,70,71,72,73,74,75,76,77,78,79,80,81,82,83,84]),(0,[]),(0,[0]),(0,[]),(0,[86,87]),(0,[]),(0,[89]),(0,[]),(0,[90]),(0,[]),(0,[91,92]),(0,[]),(0,[94]),(0,[]),(0,[95,96]),(0,[]),(0,[98]),(0,[]),(0,[99]),(0,[]),(0,[100,101]),(0,[]),(0,[103]),(0,[]),(0,[104,105]),(0,[]),(0,[107]),(0,[]),(0,[108,109]),(0,[]),(0,[8,110,111,112,113]),(0,[]),(0,[]),(0,[]),(0,[]),(0,[]),(0,[]),(0,[]),(0,[]),(0,[]),(0,[]),(0,[]),(0,[]),(0,[]),(0,[]),(0,[]),(0,[]),(0,[]),(0,[]),(0,[]),(0,[]),(0,[]),(0,[]),(0,[]),(0,[]),(0,[]),(0,[]),(0,[]),(0,[]),(0,[]),(0,[]),(0,[]),(0,[]),(0,[]),(0,[]),(0,[]),(0,[]),(0,[]),(0,[]),(0,[]),(0,[]),(0,[]),(0,[]),(0,[]),(0,[]),(0,[]),(0,[]),(0,[]),(0,[]),(0,[]),(0,[]),(0,[]),(0,[]),(0,[]),(0,[]),(0,[]),(0,[]),(0,[]),(0,[]),(0,[]),(0,[]),(0,[]),(0,[]),(0,[]),(0,[]),(0,[]),(0,[]),(0,[]),(0,[]),(0,[]),(0,[]),(0,[]),(0,[]),(0,[]),(0,[]),(0,[]),(0,[]),(0,[]),(0,[]),(0,[]),(0,[]),(0,[]),(0,[]),(0,[]),(0,[]),(0,[]),(0,[]),(0,[]),(0,[]),(0,[]),(0,[]),(0,[]),(0,[]),(0,[]),(0,[]),(0,[]),(0,[]),(0,[]),(0,[]),(0,[]),(0,[]),(0,[]),(0,[]),(0,[]),(0,[]),(0,[]),(0,[]),(0,[]),(0,[]),(0,[]),(0,[]),(0,[]),(0,[]),(1,[]),(0,[]),(0,[]),(0,[]),(0,[]),(0,[]),(0,[]),(0,[]),(0,[]),(0,[]),(0,[]),(0,[]),(0,[]),(0,[]),(0,[]),(0,[]),(0,[]),(0,[]),(1,[])]
noncomputable def n13:FInfo:=⟨bodyOf Tryz.f13,[.cell 6 31,.tmp 7],[31,32]⟩
theorem i13:finfo Tryz.prog 13 d13=some n13:=finfo_at Tryz.func13 rfl (by kernel_rfl) (by kernel_rfl)
noncomputable def k13:List AV->Option AV:=λxs=>bodyP Tryz.prog inl c113 q7 100 d13 n13 xs
def a13_0:List AV:=[.v (.int .i64 65),.agg [.v (.int .i64 0),.arr 0 [],.v (.bool false),.v (.bool true),.v (.bool false),.v (.bool false),.v (.bool false),.arr 0 [],.v (.bool false),.v (.int .u32 0),.v (.int .u32 0),.v (.int .u32 0),.v (.bool false),.v (.bool false),.v (.bool false),.v (.int .i64 0),.v (.int .i64 0),.v (.bool false),.v (.bool false),.v (.int .i64 0),.arr 0 [],.arr 0 [],.arr 0 [],.arr 0 [],.v (.int .i64 0),.v (.bool false),.v (.bool false),.v (.int .i64 0),.v (.int .i64 0),.v (.int .i64 0),.v (.bool false),.v (.int .i64 0),.arr 0 [],.arr 0 [],.arr 0 [],.arr 0 []],.arr 2 [.v (.int .i64 1),.arr 2 [.v (.int .i64 2),.v (.int .i64 2)],.arr 4 [.v (.int .u32 1065353216),.v (.int .u32 1073741824),.v (.int .u32 1077936128),.v (.int .u32 1082130432)],.arr 0 [],.arr 0 [],.v (.int .i64 7),.arr 1 [.v (.int .i64 1)],.arr 0 [],.arr 1 [.v (.int .i64 1)],.arr 0 []]]
def r13_0:AV:= .tuple [.agg [.v (.int .i64 1),.fresh 1 2 [.v (.int .i64 2),.v (.int .i64 1)],.fresh 1 2 [.v (.int .u32 1077936128),.v (.int .u32 1088421888)],.fresh 1 0 [],.fresh 1 0 []],.v (.int .i64 0)]
theorem p13_0:k13 a13_0=some r13_0:=by kernel_rfl
def a13_1:List AV:=[.v (.int .i64 70),.agg [.v (.int .i64 0),.arr 0 [],.v (.bool false),.v (.bool false),.v (.bool false),.v (.bool false),.v (.bool false),.arr 0 [],.v (.bool false),.v (.int .u32 0),.v (.int .u32 0),.v (.int .u32 0),.v (.bool false),.v (.bool false),.v (.bool false),.v (.int .i64 0),.v (.int .i64 0),.v (.bool false),.v (.bool false),.v (.int .i64 0),.arr 0 [],.arr 0 [],.arr 0 [],.arr 0 [],.v (.int .i64 0),.v (.bool false),.v (.bool false),.v (.int .i64 0),.v (.int .i64 0),.v (.int .i64 0),.v (.bool false),.v (.int .i64 0),.arr 0 [],.arr 0 [],.arr 0 [],.arr 0 []],.arr 1 [.v (.int .i64 1),.arr 1 [.v (.int .i64 3)],.arr 3 [.v (.int .u32 1065353216),.v (.int .u32 2143289344),.v (.int .u32 2139095040)],.arr 0 [],.arr 0 []]]
def r13_1:AV:= .tuple [.agg [.v (.int .i64 7),.fresh 1 0 [],.fresh 1 0 [],.fresh 1 1 [.v (.int .i64 1)],.fresh 1 0 []],.v (.int .i64 0)]
theorem p13_1:k13 a13_1=some r13_1:=by kernel_rfl
def a13_2:List AV:=[.v (.int .i64 76),.agg [.v (.int .i64 0),.arr 0 [],.v (.bool false),.v (.bool false),.v (.bool false),.v (.bool false),.v (.bool false),.arr 0 [],.v (.bool false),.v (.int .u32 0),.v (.int .u32 0),.v (.int .u32 0),.v (.bool false),.v (.bool false),.v (.bool false),.v (.int .i64 0),.v (.int .i64 0),.v (.bool false),.v (.bool false),.v (.int .i64 0),.arr 2 [.v (.int .i64 1),.v (.int .i64 2)],.arr 0 [],.arr 4 [.v (.int .i64 0),.v (.int .i64 1),.v (.int .i64 0),.v (.int .i64 0)],.arr 0 [],.v (.int .i64 0),.v (.bool false),.v (.bool false),.v (.int .i64 0),.v (.int .i64 0),.v (.int .i64 0),.v (.bool false),.v (.int .i64 0),.arr 0 [],.arr 0 [],.arr 0 [],.arr 0 []],.arr 1 [.v (.int .i64 1),.arr 4 [.v (.int .i64 1),.v (.int .i64 1),.v (.int .i64 1),.v (.int .i64 3)],.arr 3 [.v (.int .u32 1065353216),.v (.int .u32 1073741824),.v (.int .u32 1077936128)],.arr 0 [],.arr 0 []]]
def r13_2:AV:= .tuple [.agg [.v (.int .i64 1),.fresh 1 4 [.v (.int .i64 1),.v (.int .i64 1),.v (.int .i64 1),.v (.int .i64 3)],.fresh 1 3 [.v (.int .u32 1065353216),.v (.int .u32 1073741824),.v (.int .u32 1077936128)],.fresh 1 0 [],.fresh 1 0 []],.v (.int .i64 0)]
theorem p13_2:k13 a13_2=some r13_2:=by kernel_rfl
def a13_3:List AV:=[.v (.int .i64 72),.agg [.v (.int .i64 0),.arr 0 [],.v (.bool false),.v (.bool false),.v (.bool false),.v (.bool false),.v (.bool false),.arr 0 [],.v (.bool false),.v (.int .u32 0),.v (.int .u32 0),.v (.int .u32 0),.v (.bool false),.v (.bool false),.v (.bool false),.v (.int .i64 0),.v (.int .i64 0),.v (.bool false),.v (.bool false),.v (.int .i64 0),.arr 0 [],.arr 0 [],.arr 0 [],.arr 0 [],.v (.int .i64 0),.v (.bool false),.v (.bool false),.v (.int .i64 0),.v (.int .i64 0),.v (.int .i64 0),.v (.bool false),.v (.int .i64 0),.arr 0 [],.arr 0 [],.arr 0 [],.arr 0 []],.arr 1 [.v (.int .i64 1),.arr 1 [.v (.int .i64 2)],.arr 2 [.v (.int .u32 0),.v (.int .u32 0)],.arr 0 [],.arr 0 []]]
def r13_3:AV:= .tuple [.agg [.v (.int .i64 1),.fresh 1 1 [.v (.int .i64 2)],.fresh 1 2 [.v (.int .u32 1056964608),.v (.int .u32 1056964608)],.fresh 1 0 [],.fresh 1 0 []],.v (.int .i64 0)]
theorem p13_3:k13 a13_3=some r13_3:=by kernel_rfl
noncomputable def z13:List AV->Option AV:=λxs=>if sameL (sameA 8) xs a13_0=true then some r13_0 else if sameL (sameA 8) xs a13_1=true then some r13_1 else if sameL (sameA 8) xs a13_2=true then some r13_2 else if sameL (sameA 8) xs a13_3=true then some r13_3 else k13 xs
noncomputable def c114:CallP:=orC 13 z13 c113
theorem k13_ok(args:List AV)(r:AV)(h:k13 args=some r):PureOK Tryz.prog 13 args r:=by
  unfold k13 at h
  exact bodyP_ok mixed c113_ok q7_ok i13 h
theorem c114_ok:CpOK Tryz.prog c114:=orC_ok c113_ok fun args r h=>by
  unfold z13 at h
  by_cases h0:sameL (sameA 8) args a13_0=true
  · rw[if_pos h0]at h;injection h with h;subst h;rw[sameL_eq (sameA_eq 8) h0];exact k13_ok _ _ p13_0
  rw[if_neg h0]at h
  by_cases h1:sameL (sameA 8) args a13_1=true
  · rw[if_pos h1]at h;injection h with h;subst h;rw[sameL_eq (sameA_eq 8) h1];exact k13_ok _ _ p13_1
  rw[if_neg h1]at h
  by_cases h2:sameL (sameA 8) args a13_2=true
  · rw[if_pos h2]at h;injection h with h;subst h;rw[sameL_eq (sameA_eq 8) h2];exact k13_ok _ _ p13_2
  rw[if_neg h2]at h
  by_cases h3:sameL (sameA 8) args a13_3=true
  · rw[if_pos h3]at h;injection h with h;subst h;rw[sameL_eq (sameA_eq 8) h3];exact k13_ok _ _ p13_3
  rw[if_neg h3]at h
  exact k13_ok _ _ h
def d16:List (Nat×List Nat):=[(0,[]),(0,[]),(0,[0,1,5,6,7])]
noncomputable def n16:FInfo:=⟨bodyOf Tryz.f16,[.cell 4 31],[31]⟩
theorem i16:finfo Tryz.prog 16 d16=some n16:=finfo_at Tryz.func16 rfl (by kernel_rfl) (by kernel_rfl)
noncomputable def c115:CallP:=orC 16 (λxs=>(bodyP Tryz.prog inl c114 q7 100 d16 n16 xs).bind (sealR 4)) c114
theorem c115_ok:CpOK Tryz.prog c115:=orC_ok c114_ok fun args r h=>by
  obtain⟨r0,h0,h1⟩:=Option.bind_eq_some_iff.1 h
  exact(bodyP_ok mixed c114_ok q7_ok i16 h0).sealed h1
def d8:List (Nat×List Nat):=[(0,[0]),(0,[]),(0,[10,11,12,1000000001]),(0,[]),(17538019647970835018446693872673966996420990764672,[1,13,14,15,16,17,18,19,20,21,22]),(0,[]),(0,[23,24,25,26,27,28,29,30,31]),(0,[]),(0,[32,33,34,35,36,37,38,39,40,41,42]),(0,[]),(0,[43,44,45,46,47,48,49,50,51]),(0,[]),(0,[52,53,54,55,56,57,58,59,60,61,62,63,64,65,66,67,68,69,70,71,72]),(0,[]),(0,[]),(0,[]),(0,[2,3,4,5,6,7,8,9,74,75,76,77,78,79,80,81,82,83,84,85,86,87,88,89,90,91,92,93,94,95,96,97,98,99,100,101,102,103,104,105,106,107,108,109,110,111,112,113,114,115,116,117,118,119,120,121,122,123,124,125,126,127,128,129,130,131,132,133,134])]
noncomputable def n8:FInfo:=⟨bodyOf Tryz.f8,[.tmp 0],[4]⟩
theorem i8:finfo Tryz.prog 8 d8=some n8:=finfo_at Tryz.func8 rfl (by kernel_rfl) (by kernel_rfl)
noncomputable def c116:CallP:=orC 8 (λxs=>bodyP Tryz.prog inls c115 q7 100 d8 n8 xs) c115
theorem c116_ok:CpOK Tryz.prog c116:=orC_ok c115_ok λargs r h=>bodyP_ok mixed c115_ok q7_ok i8 h
theorem aw8:c116 8 []=some (.v (.bool true)):=by kernel_rfl
end Aw
theorem awake8:PureOK Tryz.prog 8 [] (.v (.bool true)):=Aw.c116_ok 8 [] _ Aw.aw8
theorem closed90_65:PureOK Tryz.prog 90 [.v (.int .i64 65)] (.tuple [.v (.int .i64 1),.v (.int .i64 2),.v (.int .i64 1),.v (.int .i64 1)]):=Aw.k90_ok _ _ Aw.p90_0
theorem closed90_66:PureOK Tryz.prog 90 [.v (.int .i64 66)] (.tuple [.v (.int .i64 1),.v (.int .i64 1),.v (.int .i64 1),.v (.int .i64 1)]):=Aw.k90_ok _ _ Aw.p90_1
theorem closed90_67:PureOK Tryz.prog 90 [.v (.int .i64 67)] (.tuple [.v (.int .i64 1),.v (.int .i64 1),.v (.int .i64 1),.v (.int .i64 1)]):=Aw.k90_ok _ _ Aw.p90_2
theorem closed90_68:PureOK Tryz.prog 90 [.v (.int .i64 68)] (.tuple [.v (.int .i64 1),.v (.int .i64 1),.v (.int .i64 1),.v (.int .i64 1)]):=Aw.k90_ok _ _ Aw.p90_3
theorem closed90_69:PureOK Tryz.prog 90 [.v (.int .i64 69)] (.tuple [.v (.int .i64 1),.v (.int .i64 1),.v (.int .i64 1),.v (.int .i64 1)]):=Aw.k90_ok _ _ Aw.p90_4
theorem closed90_70:PureOK Tryz.prog 90 [.v (.int .i64 70)] (.tuple [.v (.int .i64 1),.v (.int .i64 1),.v (.int .i64 1),.v (.int .i64 1)]):=Aw.k90_ok _ _ Aw.p90_5
theorem closed90_71:PureOK Tryz.prog 90 [.v (.int .i64 71)] (.tuple [.v (.int .i64 1),.v (.int .i64 1),.v (.int .i64 1),.v (.int .i64 1)]):=Aw.k90_ok _ _ Aw.p90_6
theorem closed90_77:PureOK Tryz.prog 90 [.v (.int .i64 77)] (.tuple [.v (.int .i64 1),.v (.int .i64 1),.v (.int .i64 1),.v (.int .i64 1)]):=Aw.k90_ok _ _ Aw.p90_7
theorem closed90_78:PureOK Tryz.prog 90 [.v (.int .i64 78)] (.tuple [.v (.int .i64 1),.v (.int .i64 1),.v (.int .i64 1),.v (.int .i64 1)]):=Aw.k90_ok _ _ Aw.p90_8
end Go.Av
