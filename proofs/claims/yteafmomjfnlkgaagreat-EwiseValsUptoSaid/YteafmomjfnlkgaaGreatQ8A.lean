/- The documents' examples, reckoned by the interpreter itself. Made by a program of mine. Conditions: none. -/
import Derived.Test.YteafmomjfnlkgaaGreatLt
import Derived.Test.YteafmomjfnlkgaaGreatProg
set_option linter.unusedVariables false
set_option linter.defProp false
set_option maxRecDepth 100000
open Go Go.Proofs
namespace Go.Av
namespace Aw
def bodyOf (f : Func) : Code := f.body.getD .skip
theorem mixed : Tryz.prog.follows .mixedOrders = true := by kernel_rfl
def inl : Cfg := inlC [25, 27, 60, 68, 69, 70, 395]
def inls : Cfg := ⟨inl.inl, fun _ => [(0, [])]⟩
def c0 : CallP := noP
def q0 : CallI := noI
theorem c0_ok : CpOK Tryz.prog c0 := noP_ok
theorem q0_ok : CiOK Tryz.prog q0 := noI_ok
def d14 : List (Nat × List Nat) := [(0, [2]), (0, []), (0, [0, 3, 4, 5, 6, 7, 8])]
noncomputable def n14 : FInfo := ⟨bodyOf Tryz.f14, [.tmp 2], [4]⟩
theorem i14 : finfo Tryz.prog 14 d14 = some n14 := finfo_at Tryz.func14 rfl (by kernel_rfl) (by kernel_rfl)
noncomputable def c1 : CallP := orC 14 (fun xs => bodyP Tryz.prog inl c0 q0 100 d14 n14 xs) c0
theorem c1_ok : CpOK Tryz.prog c1 := orC_ok c0_ok fun args r h => bodyP_ok mixed c0_ok q0_ok i14 h
def d48 : List (Nat × List Nat) := [(0, [2]), (0, []), (0, [3]), (0, []), (0, []), (0, []), (0, [0, 5, 6, 7])]
noncomputable def n48 : FInfo := ⟨bodyOf Tryz.f48, [.tmp 2], [22]⟩
theorem i48 : finfo Tryz.prog 48 d48 = some n48 := finfo_at Tryz.func48 rfl (by kernel_rfl) (by kernel_rfl)
def z48 (k : List AV → Option AV) : List AV → Option AV
  | [.arr 0 []] => some (.fresh 1 0 [])
  | xs => k xs
noncomputable def c2 : CallP := orC 48 (z48 fun xs => bodyP Tryz.prog inl c1 q0 100 d48 n48 xs) c1
theorem y48 (a : Option Addr) (c : Nat) : bodyP Tryz.prog inl c1 q0 100 d48 n48 [.v (.slice a 0 c)] = some (.fresh 1 0 []) := by cases a <;> kernel_rfl
theorem c2_ok : CpOK Tryz.prog c2 := orC_ok c1_ok fun args r h => by
  unfold z48 at h
  split at h
  · injection h with h; subst h
    exact PureOK.arr0 fun a c => bodyP_ok mixed c1_ok q0_ok i48 (y48 a c)
  · exact bodyP_ok mixed c1_ok q0_ok i48 h
def d102 : List (Nat × List Nat) := [(0, [2]), (0, []), (0, [0, 3, 4, 5])]
noncomputable def n102 : FInfo := ⟨bodyOf Tryz.f102, [.tmp 2], [22]⟩
theorem i102 : finfo Tryz.prog 102 d102 = some n102 := finfo_at Tryz.func102 rfl (by kernel_rfl) (by kernel_rfl)
noncomputable def c3 : CallP := orC 102 (fun xs => bodyP Tryz.prog inl c2 q0 100 d102 n102 xs) c2
theorem c3_ok : CpOK Tryz.prog c3 := orC_ok c2_ok fun args r h => bodyP_ok mixed c2_ok q0_ok i102 h
def d103 : List (Nat × List Nat) := [(0, [2]), (0, []), (0, [0, 3, 4, 5])]
noncomputable def n103 : FInfo := ⟨bodyOf Tryz.f103, [.tmp 2], [24]⟩
theorem i103 : finfo Tryz.prog 103 d103 = some n103 := finfo_at Tryz.func103 rfl (by kernel_rfl) (by kernel_rfl)
noncomputable def c4 : CallP := orC 103 (fun xs => bodyP Tryz.prog inl c3 q0 100 d103 n103 xs) c3
theorem c4_ok : CpOK Tryz.prog c4 := orC_ok c3_ok fun args r h => bodyP_ok mixed c3_ok q0_ok i103 h
def d104 : List (Nat × List Nat) := [(0, [2]), (0, []), (0, [0, 3, 4, 5])]
noncomputable def n104 : FInfo := ⟨bodyOf Tryz.f104, [.tmp 2], [25]⟩
theorem i104 : finfo Tryz.prog 104 d104 = some n104 := finfo_at Tryz.func104 rfl (by kernel_rfl) (by kernel_rfl)
noncomputable def c5 : CallP := orC 104 (fun xs => bodyP Tryz.prog inl c4 q0 100 d104 n104 xs) c4
theorem c5_ok : CpOK Tryz.prog c5 := orC_ok c4_ok fun args r h => bodyP_ok mixed c4_ok q0_ok i104 h
def d105 : List (Nat × List Nat) := [(0, [2]), (0, []), (0, [0, 3, 4, 5])]
noncomputable def n105 : FInfo := ⟨bodyOf Tryz.f105, [.tmp 2], [26]⟩
theorem i105 : finfo Tryz.prog 105 d105 = some n105 := finfo_at Tryz.func105 rfl (by kernel_rfl) (by kernel_rfl)
noncomputable def c6 : CallP := orC 105 (fun xs => bodyP Tryz.prog inl c5 q0 100 d105 n105 xs) c5
theorem c6_ok : CpOK Tryz.prog c6 := orC_ok c5_ok fun args r h => bodyP_ok mixed c5_ok q0_ok i105 h
def d49 : List (Nat × List Nat) := [(0, [0]), (0, []), (15, [1, 3, 4, 5, 6, 7, 8, 9, 10, 11, 12, 13, 14, 15, 16, 17])]
noncomputable def n49 : FInfo := ⟨bodyOf Tryz.f49, [.cell 2 28], [28]⟩
theorem i49 : finfo Tryz.prog 49 d49 = some n49 := finfo_at Tryz.func49 rfl (by kernel_rfl) (by kernel_rfl)
noncomputable def c7 : CallP := orC 49 (fun xs => bodyP Tryz.prog inl c6 q0 100 d49 n49 xs) c6
theorem c7_ok : CpOK Tryz.prog c7 := orC_ok c6_ok fun args r h => bodyP_ok mixed c6_ok q0_ok i49 h
def d22 : List (Nat × List Nat) := [(0, [2]), (0, [7, 8, 9]), (0, [8000003]), (0, []), (0, [0]), (0, []), (0, []), (0, []), (0, [11, 12]), (0, []), (0, [13]), (0, []), (0, [14, 15]), (0, []), (8, [17, 18, 19, 20, 21, 22, 23, 24]), (0, []), (0, [5, 6, 25, 26, 27, 28]), (0, []), (0, [29]), (0, []), (0, [3, 30])]
noncomputable def n22 : FInfo := ⟨bodyOf Tryz.f22, [.tmp 2], [46]⟩
theorem i22 : finfo Tryz.prog 22 d22 = some n22 := finfo_at Tryz.func22 rfl (by kernel_rfl) (by kernel_rfl)
noncomputable def c8 : CallP := orC 22 (fun xs => (bodyP Tryz.prog inl c7 q0 100 d22 n22 xs).bind (sealR 4)) c7
theorem c8_ok : CpOK Tryz.prog c8 := orC_ok c7_ok fun args r h => by
  obtain ⟨r0, h0, h1⟩ := Option.bind_eq_some_iff.1 h
  exact (bodyP_ok mixed c7_ok q0_ok i22 h0).sealed h1
def d67 : List (Nat × List Nat) := [(0, [3]), (0, []), (0, [0, 1, 4, 5, 6, 7, 8, 9, 10])]
noncomputable def n67 : FInfo := ⟨bodyOf Tryz.f67, [.tmp 3], [4]⟩
theorem i67 : finfo Tryz.prog 67 d67 = some n67 := finfo_at Tryz.func67 rfl (by kernel_rfl) (by kernel_rfl)
noncomputable def c9 : CallP := orC 67 (fun xs => bodyP Tryz.prog inl c8 q0 100 d67 n67 xs) c8
theorem c9_ok : CpOK Tryz.prog c9 := orC_ok c8_ok fun args r h => bodyP_ok mixed c8_ok q0_ok i67 h
def d112 : List (Nat × List Nat) := [(0, [2]), (0, []), (0, [0, 3, 4])]
noncomputable def n112 : FInfo := ⟨bodyOf Tryz.f112, [.tmp 2], [4]⟩
theorem i112 : finfo Tryz.prog 112 d112 = some n112 := finfo_at Tryz.func112 rfl (by kernel_rfl) (by kernel_rfl)
noncomputable def c10 : CallP := orC 112 (fun xs => bodyP Tryz.prog inl c9 q0 100 d112 n112 xs) c9
theorem c10_ok : CpOK Tryz.prog c10 := orC_ok c9_ok fun args r h => bodyP_ok mixed c9_ok q0_ok i112 h
def d113 : List (Nat × List Nat) := [(0, [2]), (0, []), (0, [0, 3, 4])]
noncomputable def n113 : FInfo := ⟨bodyOf Tryz.f113, [.tmp 2], [4]⟩
theorem i113 : finfo Tryz.prog 113 d113 = some n113 := finfo_at Tryz.func113 rfl (by kernel_rfl) (by kernel_rfl)
noncomputable def c11 : CallP := orC 113 (fun xs => bodyP Tryz.prog inl c10 q0 100 d113 n113 xs) c10
theorem c11_ok : CpOK Tryz.prog c11 := orC_ok c10_ok fun args r h => bodyP_ok mixed c10_ok q0_ok i113 h
def d151 : List (Nat × List Nat) := [(0, [4]), (0, [0, 1, 7, 8]), (0, [6]), (0, [5]), (0, []), (0, []), (0, [10]), (0, []), (0, [11, 12, 13, 14, 15]), (0, []), (0, [17]), (0, []), (0, [18]), (0, []), (0, [])]
noncomputable def n151 : FInfo := ⟨bodyOf Tryz.f151, [.tmp 4], [3]⟩
theorem i151 : finfo Tryz.prog 151 d151 = some n151 := finfo_at Tryz.func151 rfl (by kernel_rfl) (by kernel_rfl)
noncomputable def c12 : CallP := orC 151 (fun xs => bodyP Tryz.prog inl c11 q0 100 d151 n151 xs) c11
theorem c12_ok : CpOK Tryz.prog c12 := orC_ok c11_ok fun args r h => bodyP_ok mixed c11_ok q0_ok i151 h
def d66 : List (Nat × List Nat) := [(0, [4]), (0, []), (0, [0, 1, 5, 6, 7, 8])]
noncomputable def n66 : FInfo := ⟨bodyOf Tryz.f66, [.tmp 4], [4]⟩
theorem i66 : finfo Tryz.prog 66 d66 = some n66 := finfo_at Tryz.func66 rfl (by kernel_rfl) (by kernel_rfl)
noncomputable def c13 : CallP := orC 66 (fun xs => bodyP Tryz.prog inl c12 q0 100 d66 n66 xs) c12
theorem c13_ok : CpOK Tryz.prog c13 := orC_ok c12_ok fun args r h => bodyP_ok mixed c12_ok q0_ok i66 h
def d191 : List (Nat × List Nat) := [(0, [4]), (0, [0, 1, 7, 8]), (0, [6]), (0, [5]), (0, []), (0, []), (0, [10]), (0, []), (0, [11, 12, 13, 14, 15]), (0, []), (0, [17]), (0, []), (0, [18]), (0, []), (0, [])]
noncomputable def n191 : FInfo := ⟨bodyOf Tryz.f191, [.tmp 4], [3]⟩
theorem i191 : finfo Tryz.prog 191 d191 = some n191 := finfo_at Tryz.func191 rfl (by kernel_rfl) (by kernel_rfl)
noncomputable def c14 : CallP := orC 191 (fun xs => bodyP Tryz.prog inl c13 q0 100 d191 n191 xs) c13
theorem c14_ok : CpOK Tryz.prog c14 := orC_ok c13_ok fun args r h => bodyP_ok mixed c13_ok q0_ok i191 h
def d114 : List (Nat × List Nat) := [(0, [4]), (0, []), (0, [0, 1, 5, 6, 7, 8])]
noncomputable def n114 : FInfo := ⟨bodyOf Tryz.f114, [.tmp 4], [4]⟩
theorem i114 : finfo Tryz.prog 114 d114 = some n114 := finfo_at Tryz.func114 rfl (by kernel_rfl) (by kernel_rfl)
noncomputable def c15 : CallP := orC 114 (fun xs => bodyP Tryz.prog inl c14 q0 100 d114 n114 xs) c14
theorem c15_ok : CpOK Tryz.prog c15 := orC_ok c14_ok fun args r h => bodyP_ok mixed c14_ok q0_ok i114 h
def d54 : List (Nat × List Nat) := [(0, [2, 3]), (0, [18, 19, 20]), (0, [7]), (0, []), (0, []), (0, []), (0, [9, 10, 11, 12, 13, 14]), (0, []), (0, []), (0, []), (0, [16]), (0, []), (0, []), (0, []), (0, []), (0, []), (0, [0]), (0, []), (0, []), (0, []), (0, [22, 23]), (0, []), (0, [24, 25, 26]), (0, []), (0, []), (0, []), (0, [6, 28, 29, 30]), (0, []), (0, [31]), (0, []), (0, [4, 32])]
noncomputable def n54 : FInfo := ⟨bodyOf Tryz.f54, [.tmp 2, .tmp 3], [3, 34]⟩
theorem i54 : finfo Tryz.prog 54 d54 = some n54 := finfo_at Tryz.func54 rfl (by kernel_rfl) (by kernel_rfl)
noncomputable def c16 : CallP := orC 54 (fun xs => bodyP Tryz.prog inl c15 q0 100 d54 n54 xs) c15
theorem c16_ok : CpOK Tryz.prog c16 := orC_ok c15_ok fun args r h => bodyP_ok mixed c15_ok q0_ok i54 h
def d172 : List (Nat × List Nat) := [(0, [2]), (0, [3]), (0, [0]), (0, []), (0, [5]), (0, []), (0, []), (0, []), (0, [7]), (0, []), (0, []), (0, []), (0, [9]), (0, []), (0, []), (0, []), (0, [])]
noncomputable def n172 : FInfo := ⟨bodyOf Tryz.f172, [.tmp 2], [3]⟩
theorem i172 : finfo Tryz.prog 172 d172 = some n172 := finfo_at Tryz.func172 rfl (by kernel_rfl) (by kernel_rfl)
noncomputable def c17 : CallP := orC 172 (fun xs => bodyP Tryz.prog inl c16 q0 100 d172 n172 xs) c16
theorem c17_ok : CpOK Tryz.prog c17 := orC_ok c16_ok fun args r h => bodyP_ok mixed c16_ok q0_ok i172 h
def d106 : List (Nat × List Nat) := [(0, [2]), (0, []), (0, [0, 3, 4, 5])]
noncomputable def n106 : FInfo := ⟨bodyOf Tryz.f106, [.tmp 2], [4]⟩
theorem i106 : finfo Tryz.prog 106 d106 = some n106 := finfo_at Tryz.func106 rfl (by kernel_rfl) (by kernel_rfl)
noncomputable def c18 : CallP := orC 106 (fun xs => bodyP Tryz.prog inl c17 q0 100 d106 n106 xs) c17
theorem c18_ok : CpOK Tryz.prog c18 := orC_ok c17_ok fun args r h => bodyP_ok mixed c17_ok q0_ok i106 h
def d50 : List (Nat × List Nat) := [(0, [0, 2]), (0, [23]), (0, [6, 7, 8]), (0, []), (0, []), (0, []), (0, [10, 11, 12, 13, 14, 15]), (0, []), (0, [16]), (0, []), (0, [18]), (0, []), (0, [4, 19, 20, 21]), (0, []), (0, [22]), (0, []), (0, [25]), (0, []), (0, [26, 27, 28]), (0, []), (0, [30]), (0, []), (0, [31, 32, 33]), (0, []), (0, [1, 3, 5, 34, 35, 36, 37, 38, 39, 40, 41, 42, 43, 44, 45, 46, 47, 48, 49, 50]), (0, []), (0, []), (0, []), (0, [])]
noncomputable def n50 : FInfo := ⟨bodyOf Tryz.f50, [.tmp 2], [34]⟩
theorem i50 : finfo Tryz.prog 50 d50 = some n50 := finfo_at Tryz.func50 rfl (by kernel_rfl) (by kernel_rfl)
noncomputable def c19 : CallP := orC 50 (fun xs => bodyP Tryz.prog inl c18 q0 100 d50 n50 xs) c18
theorem c19_ok : CpOK Tryz.prog c19 := orC_ok c18_ok fun args r h => bodyP_ok mixed c18_ok q0_ok i50 h
def d140 : List (Nat × List Nat) := [(0, [2]), (0, []), (0, [0, 3, 4])]
noncomputable def n140 : FInfo := ⟨bodyOf Tryz.f140, [.tmp 2], [23]⟩
theorem i140 : finfo Tryz.prog 140 d140 = some n140 := finfo_at Tryz.func140 rfl (by kernel_rfl) (by kernel_rfl)
noncomputable def c20 : CallP := orC 140 (fun xs => bodyP Tryz.prog inl c19 q0 100 d140 n140 xs) c19
theorem c20_ok : CpOK Tryz.prog c20 := orC_ok c19_ok fun args r h => bodyP_ok mixed c19_ok q0_ok i140 h
def d124 : List (Nat × List Nat) := [(0, [2]), (0, []), (0, [0, 3, 4, 5])]
noncomputable def n124 : FInfo := ⟨bodyOf Tryz.f124, [.tmp 2], [4]⟩
theorem i124 : finfo Tryz.prog 124 d124 = some n124 := finfo_at Tryz.func124 rfl (by kernel_rfl) (by kernel_rfl)
noncomputable def c21 : CallP := orC 124 (fun xs => bodyP Tryz.prog inl c20 q0 100 d124 n124 xs) c20
theorem c21_ok : CpOK Tryz.prog c21 := orC_ok c20_ok fun args r h => bodyP_ok mixed c20_ok q0_ok i124 h
def d107 : List (Nat × List Nat) := [(0, [2]), (0, []), (0, [3]), (0, []), (0, []), (0, []), (0, [0, 5])]
noncomputable def n107 : FInfo := ⟨bodyOf Tryz.f107, [.tmp 2], [23]⟩
theorem i107 : finfo Tryz.prog 107 d107 = some n107 := finfo_at Tryz.func107 rfl (by kernel_rfl) (by kernel_rfl)
noncomputable def c22 : CallP := orC 107 (fun xs => bodyP Tryz.prog inl c21 q0 100 d107 n107 xs) c21
theorem c22_ok : CpOK Tryz.prog c22 := orC_ok c21_ok fun args r h => bodyP_ok mixed c21_ok q0_ok i107 h
def d51 : List (Nat × List Nat) := [(0, [0]), (0, [9, 10, 11]), (0, [1, 6, 7]), (0, []), (0, [8]), (0, []), (0, []), (0, []), (0, [13, 14, 15]), (0, []), (6, [4, 5, 16, 17, 18, 19, 20, 21]), (0, []), (0, [22]), (0, []), (0, [3, 23])]
noncomputable def n51 : FInfo := ⟨bodyOf Tryz.f51, [.cell 2 28], [28]⟩
theorem i51 : finfo Tryz.prog 51 d51 = some n51 := finfo_at Tryz.func51 rfl (by kernel_rfl) (by kernel_rfl)
noncomputable def c23 : CallP := orC 51 (fun xs => bodyP Tryz.prog inl c22 q0 100 d51 n51 xs) c22
theorem c23_ok : CpOK Tryz.prog c23 := orC_ok c22_ok fun args r h => bodyP_ok mixed c22_ok q0_ok i51 h
def d395 : List (Nat × List Nat) := [(0, [4]), (0, []), (0, [5]), (0, []), (0, [7]), (0, []), (0, [8, 9, 10, 11, 12, 13, 14]), (0, []), (0, [15]), (0, []), (0, [17, 18, 19, 20, 21, 22, 23, 24, 25]), (0, []), (0, [0, 1, 26, 6000004])]
noncomputable def n395 : FInfo := ⟨bodyOf Tryz.f395, [.tmp 4], [225]⟩
theorem i395 : finfo Tryz.prog 395 d395 = some n395 := finfo_at Tryz.func395 rfl (by kernel_rfl) (by kernel_rfl)
noncomputable def q1 : CallI := ciE Tryz.prog inl c23 q0 100 395 d395 n395 q0
theorem q1_ok : CiOK Tryz.prog q1 := ciE_ok mixed c23_ok q0_ok i395 q0_ok
def d383 : List (Nat × List Nat) := [(0, [2]), (0, [9, 10, 11]), (0, []), (0, []), (0, []), (0, [25, 26, 27]), (0, []), (0, []), (0, [13, 14]), (0, []), (0, [5, 15, 16, 17, 18]), (0, []), (0, [19]), (0, []), (0, [21]), (0, []), (0, [22]), (0, []), (0, [3, 23, 24, 3000000006]), (0, []), (0, [0]), (0, []), (0, []), (0, []), (0, [29, 30]), (0, []), (0, [8, 31, 32, 33]), (0, []), (0, [34]), (0, []), (0, [6, 35])]
noncomputable def n383 : FInfo := ⟨bodyOf Tryz.f383, [.tmp 2], [225]⟩
theorem i383 : finfo Tryz.prog 383 d383 = some n383 := finfo_at Tryz.func383 rfl (by kernel_rfl) (by kernel_rfl)
noncomputable def c24 : CallP := orC 383 (fun xs => bodyP Tryz.prog inl c23 q1 100 d383 n383 xs) c23
theorem c24_ok : CpOK Tryz.prog c24 := orC_ok c23_ok fun args r h => bodyP_ok mixed c23_ok q1_ok i383 h
def d384 : List (Nat × List Nat) := [(0, [0]), (0, []), (0, [1, 2, 3, 4, 5, 6, 7, 8, 9, 10, 11, 12, 13, 14, 15, 16, 17, 18, 19, 20, 21, 22, 23, 24, 25, 26, 27, 28, 29, 30, 31, 32, 33, 34, 35, 36, 37, 38, 39, 40, 41, 42, 43, 44, 45])]
noncomputable def n384 : FInfo := ⟨bodyOf Tryz.f384, [.tmp 0], [225]⟩
theorem i384 : finfo Tryz.prog 384 d384 = some n384 := finfo_at Tryz.func384 rfl (by kernel_rfl) (by kernel_rfl)
noncomputable def c25 : CallP := orC 384 (fun xs => bodyP Tryz.prog inl c24 q1 100 d384 n384 xs) c24
theorem c25_ok : CpOK Tryz.prog c25 := orC_ok c24_ok fun args r h => bodyP_ok mixed c24_ok q1_ok i384 h
def d385 : List (Nat × List Nat) := [(0, [0]), (0, []), (0, [1, 2, 3, 4, 5, 6, 7, 8, 9, 10, 11, 12, 13, 14, 15, 16, 17, 18, 19, 20, 21])]
noncomputable def n385 : FInfo := ⟨bodyOf Tryz.f385, [.tmp 0], [225]⟩
theorem i385 : finfo Tryz.prog 385 d385 = some n385 := finfo_at Tryz.func385 rfl (by kernel_rfl) (by kernel_rfl)
noncomputable def c26 : CallP := orC 385 (fun xs => bodyP Tryz.prog inl c25 q1 100 d385 n385 xs) c25
theorem c26_ok : CpOK Tryz.prog c26 := orC_ok c25_ok fun args r h => bodyP_ok mixed c25_ok q1_ok i385 h
def d386 : List (Nat × List Nat) := [(0, [0]), (0, []), (0, [1, 2, 3, 4, 5, 6, 7, 8, 9, 10, 11, 12, 13, 14, 15, 16, 17])]
noncomputable def n386 : FInfo := ⟨bodyOf Tryz.f386, [.tmp 0], [225]⟩
theorem i386 : finfo Tryz.prog 386 d386 = some n386 := finfo_at Tryz.func386 rfl (by kernel_rfl) (by kernel_rfl)
noncomputable def c27 : CallP := orC 386 (fun xs => bodyP Tryz.prog inl c26 q1 100 d386 n386 xs) c26
theorem c27_ok : CpOK Tryz.prog c27 := orC_ok c26_ok fun args r h => bodyP_ok mixed c26_ok q1_ok i386 h
def d350 : List (Nat × List Nat) := [(0, [0]), (0, []), (0, [1, 2, 3, 4, 5])]
noncomputable def n350 : FInfo := ⟨bodyOf Tryz.f350, [.tmp 0], [225]⟩
theorem i350 : finfo Tryz.prog 350 d350 = some n350 := finfo_at Tryz.func350 rfl (by kernel_rfl) (by kernel_rfl)
noncomputable def c28 : CallP := orC 350 (fun xs => bodyP Tryz.prog inl c27 q1 100 d350 n350 xs) c27
theorem c28_ok : CpOK Tryz.prog c28 := orC_ok c27_ok fun args r h => bodyP_ok mixed c27_ok q1_ok i350 h
def d267 : List (Nat × List Nat) := [(0, []), (0, []), (0, [3, 4, 5, 6, 7]), (0, []), (0, [9]), (0, []), (0, [0, 10, 11, 12, 13, 14])]
noncomputable def n267 : FInfo := ⟨bodyOf Tryz.f267, [.cell 2 191], [191]⟩
theorem i267 : finfo Tryz.prog 267 d267 = some n267 := finfo_at Tryz.func267 rfl (by kernel_rfl) (by kernel_rfl)
noncomputable def c29 : CallP := orC 267 (fun xs => bodyP Tryz.prog inl c28 q1 100 d267 n267 xs) c28
theorem c29_ok : CpOK Tryz.prog c29 := orC_ok c28_ok fun args r h => bodyP_ok mixed c28_ok q1_ok i267 h
def d173 : List (Nat × List Nat) := [(0, [2, 3, 4, 5]), (0, []), (0, [0, 7, 8]), (0, []), (12, [6, 9, 10, 11, 12, 13, 14, 15, 16])]
noncomputable def n173 : FInfo := ⟨bodyOf Tryz.f173, [.tmp 2, .tmp 3, .tmp 4, .tmp 5], [3, 3, 3, 3]⟩
theorem i173 : finfo Tryz.prog 173 d173 = some n173 := finfo_at Tryz.func173 rfl (by kernel_rfl) (by kernel_rfl)
noncomputable def k173 : List AV → Option AV := fun xs => bodyP Tryz.prog inl c29 q1 100 d173 n173 xs
def a173_0 : List AV := [.v (.int .i64 23)]
def r173_0 : AV := .tuple [.v (.int .i64 2), .v (.int .i64 2), .v (.int .i64 1), .v (.int .i64 1)]
theorem p173_0 : k173 a173_0 = some r173_0 := by kernel_rfl
def a173_1 : List AV := [.v (.int .i64 24)]
def r173_1 : AV := .tuple [.v (.int .i64 2), .v (.int .i64 2), .v (.int .i64 1), .v (.int .i64 1)]
theorem p173_1 : k173 a173_1 = some r173_1 := by kernel_rfl
def a173_2 : List AV := [.v (.int .i64 25)]
def r173_2 : AV := .tuple [.v (.int .i64 2), .v (.int .i64 2), .v (.int .i64 1), .v (.int .i64 1)]
theorem p173_2 : k173 a173_2 = some r173_2 := by kernel_rfl
def a173_3 : List AV := [.v (.int .i64 28)]
def r173_3 : AV := .tuple [.v (.int .i64 2), .v (.int .i64 2), .v (.int .i64 1), .v (.int .i64 1)]
theorem p173_3 : k173 a173_3 = some r173_3 := by kernel_rfl
def a173_4 : List AV := [.v (.int .i64 29)]
def r173_4 : AV := .tuple [.v (.int .i64 2), .v (.int .i64 2), .v (.int .i64 1), .v (.int .i64 1)]
theorem p173_4 : k173 a173_4 = some r173_4 := by kernel_rfl
def a173_5 : List AV := [.v (.int .i64 30)]
def r173_5 : AV := .tuple [.v (.int .i64 2), .v (.int .i64 2), .v (.int .i64 1), .v (.int .i64 1)]
theorem p173_5 : k173 a173_5 = some r173_5 := by kernel_rfl
def a173_6 : List AV := [.v (.int .i64 31)]
def r173_6 : AV := .tuple [.v (.int .i64 2), .v (.int .i64 2), .v (.int .i64 1), .v (.int .i64 1)]
theorem p173_6 : k173 a173_6 = some r173_6 := by kernel_rfl
def a173_7 : List AV := [.v (.int .i64 32)]
def r173_7 : AV := .tuple [.v (.int .i64 2), .v (.int .i64 2), .v (.int .i64 1), .v (.int .i64 1)]
theorem p173_7 : k173 a173_7 = some r173_7 := by kernel_rfl
def a173_8 : List AV := [.v (.int .i64 33)]
def r173_8 : AV := .tuple [.v (.int .i64 2), .v (.int .i64 2), .v (.int .i64 1), .v (.int .i64 1)]
theorem p173_8 : k173 a173_8 = some r173_8 := by kernel_rfl
def a173_9 : List AV := [.v (.int .i64 34)]
def r173_9 : AV := .tuple [.v (.int .i64 2), .v (.int .i64 2), .v (.int .i64 1), .v (.int .i64 1)]
theorem p173_9 : k173 a173_9 = some r173_9 := by kernel_rfl
def a173_10 : List AV := [.v (.int .i64 35)]
def r173_10 : AV := .tuple [.v (.int .i64 2), .v (.int .i64 2), .v (.int .i64 1), .v (.int .i64 1)]
theorem p173_10 : k173 a173_10 = some r173_10 := by kernel_rfl
def a173_11 : List AV := [.v (.int .i64 36)]
def r173_11 : AV := .tuple [.v (.int .i64 2), .v (.int .i64 2), .v (.int .i64 1), .v (.int .i64 1)]
theorem p173_11 : k173 a173_11 = some r173_11 := by kernel_rfl
def a173_12 : List AV := [.v (.int .i64 37)]
def r173_12 : AV := .tuple [.v (.int .i64 2), .v (.int .i64 2), .v (.int .i64 1), .v (.int .i64 1)]
theorem p173_12 : k173 a173_12 = some r173_12 := by kernel_rfl
def a173_13 : List AV := [.v (.int .i64 38)]
def r173_13 : AV := .tuple [.v (.int .i64 2), .v (.int .i64 2), .v (.int .i64 1), .v (.int .i64 1)]
theorem p173_13 : k173 a173_13 = some r173_13 := by kernel_rfl
def a173_14 : List AV := [.v (.int .i64 39)]
def r173_14 : AV := .tuple [.v (.int .i64 2), .v (.int .i64 2), .v (.int .i64 1), .v (.int .i64 1)]
theorem p173_14 : k173 a173_14 = some r173_14 := by kernel_rfl
def a173_15 : List AV := [.v (.int .i64 40)]
def r173_15 : AV := .tuple [.v (.int .i64 2), .v (.int .i64 2), .v (.int .i64 1), .v (.int .i64 1)]
theorem p173_15 : k173 a173_15 = some r173_15 := by kernel_rfl
def a173_16 : List AV := [.v (.int .i64 41)]
def r173_16 : AV := .tuple [.v (.int .i64 2), .v (.int .i64 2), .v (.int .i64 1), .v (.int .i64 1)]
theorem p173_16 : k173 a173_16 = some r173_16 := by kernel_rfl
noncomputable def z173 : List AV → Option AV := fun xs => if sameL (sameA 8) xs a173_0 = true then some r173_0 else if sameL (sameA 8) xs a173_1 = true then some r173_1 else if sameL (sameA 8) xs a173_2 = true then some r173_2 else if sameL (sameA 8) xs a173_3 = true then some r173_3 else if sameL (sameA 8) xs a173_4 = true then some r173_4 else if sameL (sameA 8) xs a173_5 = true then some r173_5 else if sameL (sameA 8) xs a173_6 = true then some r173_6 else if sameL (sameA 8) xs a173_7 = true then some r173_7 else if sameL (sameA 8) xs a173_8 = true then some r173_8 else if sameL (sameA 8) xs a173_9 = true then some r173_9 else if sameL (sameA 8) xs a173_10 = true then some r173_10 else if sameL (sameA 8) xs a173_11 = true then some r173_11 else if sameL (sameA 8) xs a173_12 = true then some r173_12 else if sameL (sameA 8) xs a173_13 = true then some r173_13 else if sameL (sameA 8) xs a173_14 = true then some r173_14 else if sameL (sameA 8) xs a173_15 = true then some r173_15 else if sameL (sameA 8) xs a173_16 = true then some r173_16 else k173 xs
noncomputable def c30 : CallP := orC 173 z173 c29
theorem k173_ok (args : List AV) (r : AV) (h : k173 args = some r) : PureOK Tryz.prog 173 args r := by
  unfold k173 at h
  exact bodyP_ok mixed c29_ok q1_ok i173 h
theorem c30_ok : CpOK Tryz.prog c30 := orC_ok c29_ok fun args r h => by
  unfold z173 at h
  by_cases h0 : sameL (sameA 8) args a173_0 = true
  · rw [if_pos h0] at h; injection h with h; subst h; rw [sameL_eq (sameA_eq 8) h0]; exact k173_ok _ _ p173_0
  rw [if_neg h0] at h
  by_cases h1 : sameL (sameA 8) args a173_1 = true
  · rw [if_pos h1] at h; injection h with h; subst h; rw [sameL_eq (sameA_eq 8) h1]; exact k173_ok _ _ p173_1
  rw [if_neg h1] at h
  by_cases h2 : sameL (sameA 8) args a173_2 = true
  · rw [if_pos h2] at h; injection h with h; subst h; rw [sameL_eq (sameA_eq 8) h2]; exact k173_ok _ _ p173_2
  rw [if_neg h2] at h
  by_cases h3 : sameL (sameA 8) args a173_3 = true
  · rw [if_pos h3] at h; injection h with h; subst h; rw [sameL_eq (sameA_eq 8) h3]; exact k173_ok _ _ p173_3
  rw [if_neg h3] at h
  by_cases h4 : sameL (sameA 8) args a173_4 = true
  · rw [if_pos h4] at h; injection h with h; subst h; rw [sameL_eq (sameA_eq 8) h4]; exact k173_ok _ _ p173_4
  rw [if_neg h4] at h
  by_cases h5 : sameL (sameA 8) args a173_5 = true
  · rw [if_pos h5] at h; injection h with h; subst h; rw [sameL_eq (sameA_eq 8) h5]; exact k173_ok _ _ p173_5
  rw [if_neg h5] at h
  by_cases h6 : sameL (sameA 8) args a173_6 = true
  · rw [if_pos h6] at h; injection h with h; subst h; rw [sameL_eq (sameA_eq 8) h6]; exact k173_ok _ _ p173_6
  rw [if_neg h6] at h
  by_cases h7 : sameL (sameA 8) args a173_7 = true
  · rw [if_pos h7] at h; injection h with h; subst h; rw [sameL_eq (sameA_eq 8) h7]; exact k173_ok _ _ p173_7
  rw [if_neg h7] at h
  by_cases h8 : sameL (sameA 8) args a173_8 = true
  · rw [if_pos h8] at h; injection h with h; subst h; rw [sameL_eq (sameA_eq 8) h8]; exact k173_ok _ _ p173_8
  rw [if_neg h8] at h
  by_cases h9 : sameL (sameA 8) args a173_9 = true
  · rw [if_pos h9] at h; injection h with h; subst h; rw [sameL_eq (sameA_eq 8) h9]; exact k173_ok _ _ p173_9
  rw [if_neg h9] at h
  by_cases h10 : sameL (sameA 8) args a173_10 = true
  · rw [if_pos h10] at h; injection h with h; subst h; rw [sameL_eq (sameA_eq 8) h10]; exact k173_ok _ _ p173_10
  rw [if_neg h10] at h
  by_cases h11 : sameL (sameA 8) args a173_11 = true
  · rw [if_pos h11] at h; injection h with h; subst h; rw [sameL_eq (sameA_eq 8) h11]; exact k173_ok _ _ p173_11
  rw [if_neg h11] at h
  by_cases h12 : sameL (sameA 8) args a173_12 = true
  · rw [if_pos h12] at h; injection h with h; subst h; rw [sameL_eq (sameA_eq 8) h12]; exact k173_ok _ _ p173_12
  rw [if_neg h12] at h
  by_cases h13 : sameL (sameA 8) args a173_13 = true
  · rw [if_pos h13] at h; injection h with h; subst h; rw [sameL_eq (sameA_eq 8) h13]; exact k173_ok _ _ p173_13
  rw [if_neg h13] at h
  by_cases h14 : sameL (sameA 8) args a173_14 = true
  · rw [if_pos h14] at h; injection h with h; subst h; rw [sameL_eq (sameA_eq 8) h14]; exact k173_ok _ _ p173_14
  rw [if_neg h14] at h
  by_cases h15 : sameL (sameA 8) args a173_15 = true
  · rw [if_pos h15] at h; injection h with h; subst h; rw [sameL_eq (sameA_eq 8) h15]; exact k173_ok _ _ p173_15
  rw [if_neg h15] at h
  by_cases h16 : sameL (sameA 8) args a173_16 = true
  · rw [if_pos h16] at h; injection h with h; subst h; rw [sameL_eq (sameA_eq 8) h16]; exact k173_ok _ _ p173_16
  rw [if_neg h16] at h
  exact k173_ok _ _ h
def d190 : List (Nat × List Nat) := [(0, [0]), (0, []), (0, [5, 6, 7, 8]), (0, []), (0, [10, 11, 12, 13, 14]), (0, []), (0, [1, 2, 15])]
noncomputable def n190 : FInfo := ⟨bodyOf Tryz.f190, [.cell 4 51], [51]⟩
theorem i190 : finfo Tryz.prog 190 d190 = some n190 := finfo_at Tryz.func190 rfl (by kernel_rfl) (by kernel_rfl)
noncomputable def c31 : CallP := orC 190 (fun xs => bodyP Tryz.prog inl c30 q1 100 d190 n190 xs) c30
theorem c31_ok : CpOK Tryz.prog c31 := orC_ok c30_ok fun args r h => bodyP_ok mixed c30_ok q1_ok i190 h
def d174 : List (Nat × List Nat) := [(0, [0, 4]), (0, []), (0, [1, 2, 5, 6, 7, 8, 9])]
noncomputable def n174 : FInfo := ⟨bodyOf Tryz.f174, [.tmp 4], [4]⟩
theorem i174 : finfo Tryz.prog 174 d174 = some n174 := finfo_at Tryz.func174 rfl (by kernel_rfl) (by kernel_rfl)
noncomputable def c32 : CallP := orC 174 (fun xs => bodyP Tryz.prog inl c31 q1 100 d174 n174 xs) c31
theorem c32_ok : CpOK Tryz.prog c32 := orC_ok c31_ok fun args r h => bodyP_ok mixed c31_ok q1_ok i174 h
def d108 : List (Nat × List Nat) := [(0, [0, 2]), (0, [1, 49, 50]), (0, [8, 9, 10, 11, 12, 13, 14, 15]), (0, []), (0, [4, 5, 6, 16, 17, 18, 19, 20, 21, 22, 23, 24, 25, 26, 27, 28, 29, 30, 31, 32, 33, 34, 35, 36, 37, 38, 39, 40, 41, 42, 43, 44, 45, 46, 47]), (0, []), (0, []), (0, []), (0, [3]), (0, []), (0, []), (0, []), (0, [52]), (0, []), (0, [7, 53, 54, 55]), (0, []), (0, []), (0, []), (0, [57]), (0, []), (0, [])]
noncomputable def n108 : FInfo := ⟨bodyOf Tryz.f108, [.tmp 2], [4]⟩
theorem i108 : finfo Tryz.prog 108 d108 = some n108 := finfo_at Tryz.func108 rfl (by kernel_rfl) (by kernel_rfl)
noncomputable def c33 : CallP := orC 108 (fun xs => bodyP Tryz.prog inl c32 q1 100 d108 n108 xs) c32
theorem c33_ok : CpOK Tryz.prog c33 := orC_ok c32_ok fun args r h => bodyP_ok mixed c32_ok q1_ok i108 h
def d268 : List (Nat × List Nat) := [(0, [2]), (0, [3, 4, 13, 18, 31, 36, 45, 55]), (0, [0]), (0, []), (0, [5]), (0, []), (0, [6]), (0, []), (0, [7]), (1, []), (0, [8]), (0, []), (0, [9]), (0, []), (0, [10]), (0, []), (0, [11]), (0, []), (0, [12]), (0, []), (0, []), (0, []), (0, [14]), (0, []), (0, [15]), (0, []), (0, [16]), (1, []), (0, [17]), (0, []), (0, []), (0, []), (0, [19]), (0, []), (0, [20]), (0, []), (0, [21]), (1, []), (0, [22]), (0, []), (0, [23]), (0, []), (0, [24]), (0, []), (0, [25]), (0, []), (0, [26]), (0, []), (0, [27]), (0, []), (0, [28]), (0, []), (0, [29]), (0, []), (0, [30]), (0, []), (0, []), (0, []), (0, [32]), (0, []), (0, [33]), (0, []), (0, []), (1, []), (0, [35]), (0, []), (0, []), (0, []), (0, [37]), (0, []), (0, [38]), (0, []), (0, [39]), (1, []), (0, [40]), (0, []), (0, [41]), (0, []), (0, [42]), (0, []), (0, [43]), (0, []), (0, [44]), (0, []), (0, []), (0, []), (0, [46]), (0, []), (0, [47]), (0, []), (0, [48]), (1, []), (0, [49]), (0, []), (0, [50]), (0, []), (0, [51]), (0, []), (0, [52]), (0, []), (0, [53]), (0, []), (0, [54]), (0, []), (0, []), (0, []), (0, [56]), (0, []), (0, [57]), (0, []), (0, []), (1, []), (0, [59]), (0, []), (0, []), (0, []), (0, [61]), (0, []), (0, []), (0, []), (0, [])]
noncomputable def n268 : FInfo := ⟨bodyOf Tryz.f268, [.tmp 2], [9]⟩
theorem i268 : finfo Tryz.prog 268 d268 = some n268 := finfo_at Tryz.func268 rfl (by kernel_rfl) (by kernel_rfl)
noncomputable def c34 : CallP := orC 268 (fun xs => bodyP Tryz.prog inl c33 q1 100 d268 n268 xs) c33
theorem c34_ok : CpOK Tryz.prog c34 := orC_ok c33_ok fun args r h => bodyP_ok mixed c33_ok q1_ok i268 h
def d269 : List (Nat × List Nat) := [(0, [0, 6]), (0, [1, 3, 12]), (0, [8, 9, 10, 11]), (0, []), (0, [2]), (0, []), (0, [14]), (0, []), (0, [15, 16, 17, 18, 19, 20]), (0, []), (0, [22]), (0, []), (0, [23, 24]), (0, []), (0, [26]), (0, []), (0, [27, 28]), (0, []), (0, [30]), (0, []), (0, [31, 32]), (0, []), (0, [34]), (0, []), (0, [35, 36, 37, 38, 39]), (0, []), (0, [41]), (0, []), (0, [42, 43, 44, 45, 46, 47, 48]), (0, []), (0, [7, 49, 50, 51])]
noncomputable def n269 : FInfo := ⟨bodyOf Tryz.f269, [.tmp 6], [4]⟩
theorem i269 : finfo Tryz.prog 269 d269 = some n269 := finfo_at Tryz.func269 rfl (by kernel_rfl) (by kernel_rfl)
noncomputable def c35 : CallP := orC 269 (fun xs => bodyP Tryz.prog inl c34 q1 100 d269 n269 xs) c34
theorem c35_ok : CpOK Tryz.prog c35 := orC_ok c34_ok fun args r h => bodyP_ok mixed c34_ok q1_ok i269 h
def d175 : List (Nat × List Nat) := [(0, [0, 2]), (0, [3, 10, 11]), (0, [5, 6, 7]), (0, []), (0, [8, 9]), (0, []), (0, []), (0, []), (0, [13]), (0, []), (24, [4, 14, 15, 16, 17, 18, 19, 20, 21, 22, 23, 24, 25, 26, 27, 28, 29, 30, 31, 32, 33, 34, 35, 36]), (0, []), (0, []), (0, []), (0, [38]), (0, []), (0, [1, 39, 40, 41, 42, 43, 44, 45, 46, 47, 48, 49, 50, 51, 52, 53])]
noncomputable def n175 : FInfo := ⟨bodyOf Tryz.f175, [.tmp 2], [4]⟩
theorem i175 : finfo Tryz.prog 175 d175 = some n175 := finfo_at Tryz.func175 rfl (by kernel_rfl) (by kernel_rfl)
noncomputable def c36 : CallP := orC 175 (fun xs => bodyP Tryz.prog inl c35 q1 100 d175 n175 xs) c35
theorem c36_ok : CpOK Tryz.prog c36 := orC_ok c35_ok fun args r h => bodyP_ok mixed c35_ok q1_ok i175 h
def d178 : List (Nat × List Nat) := [(0, [0, 4]), (0, []), (0, [1, 2, 5, 6, 7, 8])]
noncomputable def n178 : FInfo := ⟨bodyOf Tryz.f178, [.tmp 4], [22]⟩
theorem i178 : finfo Tryz.prog 178 d178 = some n178 := finfo_at Tryz.func178 rfl (by kernel_rfl) (by kernel_rfl)
noncomputable def c37 : CallP := orC 178 (fun xs => bodyP Tryz.prog inl c36 q1 100 d178 n178 xs) c36
theorem c37_ok : CpOK Tryz.prog c37 := orC_ok c36_ok fun args r h => bodyP_ok mixed c36_ok q1_ok i178 h
def d270 : List (Nat × List Nat) := [(0, [0, 2]), (0, []), (0, [1, 3, 4, 5])]
noncomputable def n270 : FInfo := ⟨bodyOf Tryz.f270, [.tmp 2], [3]⟩
theorem i270 : finfo Tryz.prog 270 d270 = some n270 := finfo_at Tryz.func270 rfl (by kernel_rfl) (by kernel_rfl)
noncomputable def c38 : CallP := orC 270 (fun xs => bodyP Tryz.prog inl c37 q1 100 d270 n270 xs) c37
theorem c38_ok : CpOK Tryz.prog c38 := orC_ok c37_ok fun args r h => bodyP_ok mixed c37_ok q1_ok i270 h
def d176 : List (Nat × List Nat) := [(0, [0, 2]), (0, [1, 3, 4, 17, 58, 99, 131, 164]), (5, [12, 13, 14, 15]), (0, []), (0, [16]), (0, []), (0, [19]), (0, []), (0, [20, 21, 22, 23, 24, 25, 26, 27]), (0, []), (0, [29]), (0, []), (0, [30, 31, 32, 33]), (0, []), (0, [35]), (0, []), (0, [36, 37, 38, 39, 40, 41, 42, 43, 44, 45, 46, 47, 48, 49]), (0, []), (0, [5, 50, 51, 52, 53, 54, 55, 56, 57]), (0, []), (0, [59]), (0, []), (0, [60]), (0, []), (0, [61, 62, 63, 64, 65, 66, 67, 68]), (0, []), (0, [70]), (0, []), (0, [71, 72, 73, 74, 75, 76, 77]), (0, []), (0, [6, 7, 78, 79, 80, 81, 82, 83, 84, 85, 86, 87, 88, 89, 90, 91, 92, 93, 94, 95, 96, 97, 98]), (0, []), (0, [100]), (0, []), (0, [101]), (0, []), (0, [102]), (0, []), (0, [103]), (0, []), (0, [104]), (0, []), (0, [105]), (0, []), (0, [106]), (0, []), (0, [107]), (0, []), (0, [108]), (0, []), (0, [8, 109, 110, 111, 112, 113, 114, 115]), (0, []), (0, [9, 116, 117]), (0, []), (0, [119]), (0, []), (0, [120, 121, 122, 123, 124, 125, 126, 127, 128, 129, 130]), (0, []), (0, [132]), (0, []), (0, [133]), (0, []), (0, [134]), (0, []), (0, [135]), (0, []), (0, [10, 136, 137, 138, 139, 140, 141, 142]), (0, []), (0, [11, 143, 144]), (0, []), (0, [146]), (0, []), (0, [147, 148, 149, 150, 151, 152, 153, 154, 155, 156, 157, 158, 159, 160, 161, 162, 163]), (0, []), (0, [165]), (0, []), (0, [166]), (0, []), (0, [167, 168, 169, 170, 171, 172, 173, 174]), (0, []), (0, []), (0, []), (0, []), (0, []), (0, []), (0, []), (0, []), (0, []), (0, []), (0, []), (0, []), (0, []), (0, []), (0, []), (0, []), (0, []), (0, []), (0, []), (0, []), (0, []), (0, []), (0, []), (0, []), (0, []), (0, []), (0, []), (0, []), (0, []), (0, []), (0, []), (0, []), (0, []), (0, []), (0, []), (0, []), (0, []), (0, []), (1, []), (0, []), (0, []), (0, []), (0, []), (0, []), (0, []), (0, []), (0, []), (0, []), (0, []), (0, []), (0, []), (0, []), (0, []), (0, []), (0, []), (0, []), (0, []), (0, []), (0, []), (0, []), (0, []), (0, []), (0, []), (0, []), (0, []), (0, []), (0, []), (0, []), (0, []), (0, []), (0, []), (0, []), (0, []), (0, []), (0, []), (0, []), (0, []), (0, []), (0, []), (0, []), (0, []), (0, []), (0, []), (0, []), (0, []), (0, []), (0, []), (0, []), (0, []), (0, []), (0, []), (0, []), (0, []), (0, []), (0, []), (0, []), (0, []), (0, []), (0, []), (0, []), (0, []), (0, []), (0, []), (0, []), (0, []), (0, []), (0, []), (0, []), (0, []), (0, []), (0, []), (0, []), (0, []), (0, []), (0, []), (0, []), (0, []), (0, []), (0, []), (0, []), (1, []), (0, []), (0, []), (0, []), (0, []), (0, []), (0, []), (0, []), (0, []), (0, []), (0, []), (0, []), (0, []), (0, []), (0, []), (0, []), (0, []), (0, []), (0, []), (0, []), (0, []), (0, []), (0, []), (0, []), (0, []), (0, []), (0, []), (0, []), (0, []), (0, []), (0, []), (0, []), (0, []), (0, []), (0, []), (0, []), (0, []), (0, []), (0, []), (0, []), (0, []), (0, []), (0, []), (0, []), (0, []), (0, []), (0, []), (0, []), (0, []), (0, []), (0, []), (0, []), (0, []), (0, []), (0, []), (0, []), (0, []), (0, []), (0, []), (0, []), (0, []), (0, []), (0, []), (0, []), (1, []), (0, []), (0, []), (0, []), (0, []), (0, []), (0, []), (0, []), (0, []), (0, []), (0, []), (0, []), (0, []), (0, []), (0, []), (0, []), (0, []), (0, []), (0, []), (0, []), (0, []), (0, []), (0, []), (0, []), (0, []), (0, []), (0, []), (0, []), (0, []), (0, []), (0, []), (0, []), (0, []), (0, []), (0, []), (0, []), (0, []), (0, []), (0, []), (0, []), (0, []), (0, []), (0, []), (0, []), (0, []), (0, []), (0, []), (0, []), (0, []), (0, []), (0, []), (0, []), (0, []), (0, []), (0, []), (0, []), (0, []), (0, []), (0, []), (0, []), (0, []), (0, []), (0, []), (0, []), (0, []), (0, []), (1, [])]
noncomputable def n176 : FInfo := ⟨bodyOf Tryz.f176, [.tmp 2], [4]⟩
theorem i176 : finfo Tryz.prog 176 d176 = some n176 := finfo_at Tryz.func176 rfl (by kernel_rfl) (by kernel_rfl)
noncomputable def c39 : CallP := orC 176 (fun xs => bodyP Tryz.prog inl c38 q1 100 d176 n176 xs) c38
theorem c39_ok : CpOK Tryz.prog c39 := orC_ok c38_ok fun args r h => bodyP_ok mixed c38_ok q1_ok i176 h
def d276 : List (Nat × List Nat) := [(0, [0, 2]), (0, [8, 13]), (0, []), (0, [1, 4, 6]), (0, [7]), (0, []), (0, []), (0, []), (0, [10]), (0, []), (0, []), (0, []), (0, [12]), (0, []), (0, []), (0, []), (0, [14]), (0, []), (0, [15]), (0, []), (0, [16]), (0, []), (0, [17]), (0, []), (0, [18]), (0, []), (0, [19]), (1, []), (0, [20]), (0, []), (0, [21]), (0, []), (0, []), (0, []), (0, [3, 22]), (0, []), (0, [23, 24]), (0, []), (0, [26, 27]), (0, []), (0, [28, 29]), (0, []), (0, [31, 32, 33, 34, 35, 36]), (0, []), (0, [5, 37])]
noncomputable def n276 : FInfo := ⟨bodyOf Tryz.f276, [.tmp 2], [46]⟩
theorem i276 : finfo Tryz.prog 276 d276 = some n276 := finfo_at Tryz.func276 rfl (by kernel_rfl) (by kernel_rfl)
noncomputable def c40 : CallP := orC 276 (fun xs => bodyP Tryz.prog inl c39 q1 100 d276 n276 xs) c39
theorem c40_ok : CpOK Tryz.prog c40 := orC_ok c39_ok fun args r h => bodyP_ok mixed c39_ok q1_ok i276 h
def d193 : List (Nat × List Nat) := [(0, [4]), (0, [0, 1, 12, 13]), (0, [6, 7, 8, 9]), (0, []), (0, []), (0, []), (0, [11]), (0, []), (0, []), (0, []), (0, [15]), (0, []), (9, [5, 16, 17, 18, 19, 20, 21, 22, 23]), (0, []), (0, []), (0, []), (0, [25]), (0, []), (0, [])]
noncomputable def n193 : FInfo := ⟨bodyOf Tryz.f193, [.tmp 4], [4]⟩
theorem i193 : finfo Tryz.prog 193 d193 = some n193 := finfo_at Tryz.func193 rfl (by kernel_rfl) (by kernel_rfl)
noncomputable def c41 : CallP := orC 193 (fun xs => bodyP Tryz.prog inl c40 q1 100 d193 n193 xs) c40
theorem c41_ok : CpOK Tryz.prog c41 := orC_ok c40_ok fun args r h => bodyP_ok mixed c40_ok q1_ok i193 h
def d351 : List (Nat × List Nat) := [(0, [4]), (0, [0, 1, 7, 8]), (0, [6]), (0, [5]), (0, []), (0, []), (0, [10]), (0, []), (0, [11, 12, 13, 14, 15]), (0, []), (0, [17]), (0, []), (0, [18]), (0, []), (0, [])]
noncomputable def n351 : FInfo := ⟨bodyOf Tryz.f351, [.tmp 4], [3]⟩
theorem i351 : finfo Tryz.prog 351 d351 = some n351 := finfo_at Tryz.func351 rfl (by kernel_rfl) (by kernel_rfl)
noncomputable def c42 : CallP := orC 351 (fun xs => bodyP Tryz.prog inl c41 q1 100 d351 n351 xs) c41
theorem c42_ok : CpOK Tryz.prog c42 := orC_ok c41_ok fun args r h => bodyP_ok mixed c41_ok q1_ok i351 h
def d277 : List (Nat × List Nat) := [(0, [4]), (0, []), (0, [0, 1, 5, 6, 7, 8])]
noncomputable def n277 : FInfo := ⟨bodyOf Tryz.f277, [.tmp 4], [4]⟩
theorem i277 : finfo Tryz.prog 277 d277 = some n277 := finfo_at Tryz.func277 rfl (by kernel_rfl) (by kernel_rfl)
noncomputable def c43 : CallP := orC 277 (fun xs => bodyP Tryz.prog inl c42 q1 100 d277 n277 xs) c42
theorem c43_ok : CpOK Tryz.prog c43 := orC_ok c42_ok fun args r h => bodyP_ok mixed c42_ok q1_ok i277 h
def d177 : List (Nat × List Nat) := [(0, [0, 2]), (0, [1, 3]), (0, [4, 5]), (0, []), (0, [7, 8]), (0, []), (0, []), (0, []), (0, [10, 11]), (0, []), (0, []), (0, []), (0, [13, 14, 15, 16, 17, 18, 19]), (0, []), (0, []), (0, []), (0, [])]
noncomputable def n177 : FInfo := ⟨bodyOf Tryz.f177, [.tmp 2], [34]⟩
theorem i177 : finfo Tryz.prog 177 d177 = some n177 := finfo_at Tryz.func177 rfl (by kernel_rfl) (by kernel_rfl)
noncomputable def c44 : CallP := orC 177 (fun xs => bodyP Tryz.prog inl c43 q1 100 d177 n177 xs) c43
theorem c44_ok : CpOK Tryz.prog c44 := orC_ok c43_ok fun args r h => bodyP_ok mixed c43_ok q1_ok i177 h
def d109 : List (Nat × List Nat) := [(0, [0, 2]), (0, [8, 9, 10]), (0, [7]), (0, []), (0, []), (0, []), (0, [12, 13, 14]), (0, []), (0, [4, 5, 15, 16, 17, 18, 19, 20]), (0, []), (0, [3, 6, 21, 22, 23, 24, 25, 26]), (0, []), (0, []), (0, []), (0, [28]), (0, []), (0, [30, 31, 32]), (0, []), (0, []), (0, []), (0, [34, 35, 36]), (0, []), (0, []), (0, []), (0, [1, 37, 38])]
noncomputable def n109 : FInfo := ⟨bodyOf Tryz.f109, [.tmp 2], [34]⟩
theorem i109 : finfo Tryz.prog 109 d109 = some n109 := finfo_at Tryz.func109 rfl (by kernel_rfl) (by kernel_rfl)
noncomputable def c45 : CallP := orC 109 (fun xs => bodyP Tryz.prog inl c44 q1 100 d109 n109 xs) c44
theorem c45_ok : CpOK Tryz.prog c45 := orC_ok c44_ok fun args r h => bodyP_ok mixed c44_ok q1_ok i109 h
def d189 : List (Nat × List Nat) := [(0, [2, 3]), (0, []), (0, [0, 4, 5])]
noncomputable def n189 : FInfo := ⟨bodyOf Tryz.f189, [.tmp 2, .tmp 3], [77, 34]⟩
theorem i189 : finfo Tryz.prog 189 d189 = some n189 := finfo_at Tryz.func189 rfl (by kernel_rfl) (by kernel_rfl)
noncomputable def c46 : CallP := orC 189 (fun xs => bodyP Tryz.prog inl c45 q1 100 d189 n189 xs) c45
theorem c46_ok : CpOK Tryz.prog c46 := orC_ok c45_ok fun args r h => bodyP_ok mixed c45_ok q1_ok i189 h
def d192 : List (Nat × List Nat) := [(0, [4, 5]), (0, [19, 20, 21]), (0, [17, 18]), (0, [9]), (0, []), (0, [11, 48, 49, 50]), (0, [23, 24]), (0, []), (0, [7, 8, 25, 26, 27, 28, 29]), (0, [12, 13, 14]), (0, [30]), (0, []), (0, [32]), (0, []), (0, [33]), (0, []), (0, [34, 35, 36, 37]), (0, []), (0, [39, 40]), (0, []), (0, [41, 42]), (0, []), (0, [0, 43, 44, 45, 46, 47]), (0, []), (0, [1]), (0, []), (0, []), (0, []), (0, [52, 53, 54]), (0, []), (0, [55, 56, 57, 58, 59, 60]), (0, []), (0, [62, 63]), (0, []), (0, [64, 65, 66, 67, 68, 69]), (0, []), (0, [71, 72, 73, 74, 75, 76, 77]), (0, []), (0, []), (0, []), (0, [78]), (0, []), (0, [15, 79, 80, 81, 82, 83]), (0, []), (0, [84]), (0, []), (0, [86]), (0, []), (0, [10, 16, 87])]
noncomputable def n192 : FInfo := ⟨bodyOf Tryz.f192, [.tmp 4, .tmp 5], [22, 34]⟩
theorem i192 : finfo Tryz.prog 192 d192 = some n192 := finfo_at Tryz.func192 rfl (by kernel_rfl) (by kernel_rfl)
noncomputable def c47 : CallP := orC 192 (fun xs => bodyP Tryz.prog inl c46 q1 100 d192 n192 xs) c46
theorem c47_ok : CpOK Tryz.prog c47 := orC_ok c46_ok fun args r h => bodyP_ok mixed c46_ok q1_ok i192 h
def d179 : List (Nat × List Nat) := [(0, [0, 2, 3]), (0, [1, 5]), (0, [8, 9]), (0, []), (0, []), (0, []), (0, [10, 11, 12, 13]), (0, []), (0, [15, 16]), (0, []), (0, [17, 18, 19, 20, 21, 22, 23, 24]), (0, []), (0, [25]), (0, []), (0, [27]), (0, []), (0, [6, 7, 28, 1000000004]), (0, []), (0, [4, 29, 30, 31, 32])]
noncomputable def n179 : FInfo := ⟨bodyOf Tryz.f179, [.tmp 2, .tmp 3], [77, 34]⟩
theorem i179 : finfo Tryz.prog 179 d179 = some n179 := finfo_at Tryz.func179 rfl (by kernel_rfl) (by kernel_rfl)
noncomputable def c48 : CallP := orC 179 (fun xs => bodyP Tryz.prog inl c47 q1 100 d179 n179 xs) c47
theorem c48_ok : CpOK Tryz.prog c48 := orC_ok c47_ok fun args r h => bodyP_ok mixed c47_ok q1_ok i179 h
def d110 : List (Nat × List Nat) := [(0, [0, 2, 3]), (0, [1, 5, 9, 10, 54, 78, 108, 115]), (0, [6, 7]), (0, []), (0, [8]), (0, []), (0, [11]), (0, []), (0, [12]), (0, []), (0, [13]), (0, []), (0, [14]), (0, []), (0, [15]), (0, []), (0, [16]), (0, []), (0, [17]), (0, []), (0, [18]), (1, []), (0, [19]), (0, []), (0, [20]), (0, []), (0, [21]), (0, []), (0, [22]), (0, []), (0, [23]), (0, []), (0, [24]), (0, []), (0, [25]), (0, []), (0, [26]), (0, []), (0, [27]), (0, []), (0, [28, 29, 30, 31]), (0, []), (0, [33]), (0, []), (0, [34, 35, 36, 37]), (0, []), (0, [38]), (0, []), (0, [40]), (0, []), (0, [42]), (0, []), (8, [43, 44, 45, 46, 47, 48, 49]), (0, []), (0, [51, 52, 53]), (0, []), (0, [55]), (0, []), (0, [56]), (0, []), (0, [57]), (0, []), (0, [58]), (0, []), (0, [59]), (0, []), (0, [60]), (0, []), (0, [61]), (0, []), (0, [62]), (0, []), (0, [63]), (0, []), (0, [64]), (0, []), (0, [65]), (0, []), (0, [66]), (0, []), (0, [67]), (0, []), (0, [68]), (0, []), (0, [69]), (0, []), (0, [70]), (0, []), (0, [71]), (0, []), (0, [72]), (0, []), (0, [73]), (0, []), (0, [74, 75, 76, 77]), (0, []), (0, [79]), (0, []), (0, [80]), (0, []), (0, [81]), (0, []), (0, [82]), (0, []), (0, [83]), (0, []), (0, [84]), (0, []), (0, [85]), (1, []), (0, [86, 87, 88, 89]), (0, []), (0, [91]), (0, []), (0, [92, 93, 94, 95]), (0, []), (0, [97]), (0, []), (0, [98, 99, 100, 101]), (0, []), (0, [103]), (0, []), (0, [104, 105, 106, 107]), (0, []), (0, [109]), (0, []), (0, [110]), (0, []), (0, [111, 112, 113, 114]), (0, []), (0, [116]), (0, []), (0, [117]), (0, []), (0, [118]), (0, []), (0, [119, 120, 121, 122]), (0, []), (0, [4, 123, 124, 125, 126]), (0, []), (0, []), (0, []), (0, []), (0, []), (0, []), (0, []), (0, []), (0, []), (0, []), (0, []), (0, []), (0, []), (0, []), (0, []), (0, []), (0, []), (0, []), (1, []), (0, []), (0, []), (0, []), (0, []), (0, []), (0, []), (0, []), (0, []), (0, []), (0, []), (0, []), (0, []), (0, []), (0, []), (0, []), (0, []), (0, []), (0, []), (0, []), (0, []), (0, []), (0, []), (0, []), (0, []), (0, []), (0, []), (0, []), (0, []), (0, []), (0, []), (0, []), (0, []), (0, []), (0, []), (0, []), (0, []), (0, []), (0, []), (0, []), (0, []), (0, []), (0, []), (0, []), (0, []), (0, []), (0, []), (0, []), (0, []), (0, []), (0, []), (0, []), (0, []), (0, []), (0, []), (0, []), (0, []), (0, []), (0, []), (0, []), (1, []), (0, []), (0, []), (0, []), (0, []), (0, []), (0, []), (0, []), (0, []), (0, []), (0, []), (0, []), (0, []), (0, []), (1, [])]
noncomputable def n110 : FInfo := ⟨bodyOf Tryz.f110, [.tmp 2, .tmp 3], [77, 34]⟩
theorem i110 : finfo Tryz.prog 110 d110 = some n110 := finfo_at Tryz.func110 rfl (by kernel_rfl) (by kernel_rfl)
noncomputable def c49 : CallP := orC 110 (fun xs => bodyP Tryz.prog inl c48 q1 100 d110 n110 xs) c48
theorem c49_ok : CpOK Tryz.prog c49 := orC_ok c48_ok fun args r h => bodyP_ok mixed c48_ok q1_ok i110 h
def d111 : List (Nat × List Nat) := [(0, [0, 2]), (0, [4, 5, 17]), (0, [3]), (0, []), (0, [6]), (0, []), (0, [7]), (0, []), (0, [8]), (0, []), (0, [9]), (1, []), (0, [10]), (0, []), (0, [11]), (0, []), (0, [12]), (0, []), (0, [13]), (0, []), (0, [14]), (0, []), (0, [15]), (0, []), (0, [16]), (0, []), (0, []), (0, []), (0, [18]), (0, []), (0, [19]), (0, []), (0, [20]), (0, []), (0, [21]), (1, []), (0, []), (0, []), (0, [23]), (0, []), (0, [24, 25, 26]), (0, []), (0, [28]), (0, []), (0, [29, 30, 31, 32]), (0, []), (0, [34]), (0, []), (0, [35, 36, 37]), (0, []), (0, [1, 38, 39, 40])]
noncomputable def n111 : FInfo := ⟨bodyOf Tryz.f111, [.tmp 2], [3]⟩
theorem i111 : finfo Tryz.prog 111 d111 = some n111 := finfo_at Tryz.func111 rfl (by kernel_rfl) (by kernel_rfl)
noncomputable def c50 : CallP := orC 111 (fun xs => bodyP Tryz.prog inl c49 q1 100 d111 n111 xs) c49
theorem c50_ok : CpOK Tryz.prog c50 := orC_ok c49_ok fun args r h => bodyP_ok mixed c49_ok q1_ok i111 h
def d52 : List (Nat × List Nat) := [(0, [1, 8, 9]), (0, [10, 40, 41, 42]), (0, [0, 2, 3, 5, 19, 20, 21, 22, 23]), (0, []), (0, [24, 25]), (0, []), (0, []), (0, []), (0, [27, 28]), (0, []), (0, [29]), (0, []), (0, [31]), (0, []), (0, [11, 32, 33, 34, 35, 36]), (0, []), (0, [37]), (0, []), (0, [39]), (0, []), (0, [13, 8000014]), (0, []), (0, [12]), (0, []), (0, []), (0, []), (0, [44, 45]), (0, []), (0, [17, 46, 47, 48, 49, 50]), (0, []), (0, [18, 51]), (0, []), (0, []), (0, []), (0, [16, 53, 54, 55, 56, 57, 58, 59, 60]), (0, []), (0, [61]), (0, []), (0, [14, 62])]
noncomputable def n52 : FInfo := ⟨bodyOf Tryz.f52, [.tmp 8, .tmp 9], [46, 34]⟩
theorem i52 : finfo Tryz.prog 52 d52 = some n52 := finfo_at Tryz.func52 rfl (by kernel_rfl) (by kernel_rfl)
noncomputable def k52 : List AV → Option AV := fun xs => bodyP Tryz.prog inl c50 q1 100 d52 n52 xs
def a52_0 : List AV := [.v (.int .i64 28), .agg [.v (.int .i64 0), .arr 0 [], .v (.bool false), .v (.bool false), .v (.bool false), .v (.bool false), .v (.bool false), .arr 0 [], .v (.bool false), .v (.int .u32 0), .v (.int .u32 0), .v (.int .u32 0), .v (.bool false), .v (.bool false), .v (.bool false), .v (.int .i64 0), .v (.int .i64 0), .v (.bool false), .v (.bool false), .v (.int .i64 0), .arr 0 [], .arr 0 [], .arr 0 [], .arr 0 [], .v (.int .i64 0), .v (.bool false), .v (.bool false), .v (.int .i64 0), .v (.int .i64 0), .v (.int .i64 0), .v (.bool false), .v (.int .i64 0), .arr 0 [], .arr 0 [], .arr 0 [], .arr 0 []], .arr 2 [.v (.int .i64 1), .arr 1 [.v (.int .i64 1)], .v (.bool true), .v (.int .i64 1), .arr 1 [.v (.int .i64 1)], .arr 1 [.v (.int .u32 1065353216)], .arr 0 [], .arr 0 [], .v (.int .i64 1), .arr 1 [.v (.int .i64 2)], .v (.bool true), .v (.int .i64 1), .arr 1 [.v (.int .i64 2)], .arr 2 [.v (.int .u32 1073741824), .v (.int .u32 1077936128)], .arr 0 [], .arr 0 []], .v (.int .i64 1)]
def r52_0 : AV := .tuple [.fresh 8 1 [.v (.int .i64 1), .arr 1 [.v (.int .i64 2)], .v (.bool false), .v (.int .i64 0), .arr 0 [], .arr 0 [], .arr 0 [], .arr 0 []], .v (.int .i64 0)]
theorem p52_0 : k52 a52_0 = some r52_0 := by kernel_rfl
def a52_1 : List AV := [.v (.int .i64 31), .agg [.v (.int .i64 0), .arr 0 [], .v (.bool false), .v (.bool false), .v (.bool false), .v (.bool false), .v (.bool false), .arr 0 [], .v (.bool false), .v (.int .u32 0), .v (.int .u32 0), .v (.int .u32 0), .v (.bool false), .v (.bool false), .v (.bool false), .v (.int .i64 0), .v (.int .i64 0), .v (.bool false), .v (.bool false), .v (.int .i64 0), .arr 0 [], .arr 0 [], .arr 0 [], .arr 0 [], .v (.int .i64 0), .v (.bool false), .v (.bool false), .v (.int .i64 0), .v (.int .i64 0), .v (.int .i64 0), .v (.bool false), .v (.int .i64 0), .arr 0 [], .arr 0 [], .arr 0 [], .arr 0 []], .arr 2 [.v (.int .i64 7), .arr 1 [.v (.int .i64 1)], .v (.bool true), .v (.int .i64 7), .arr 1 [.v (.int .i64 1)], .arr 0 [], .arr 1 [.v (.int .i64 7)], .arr 0 [], .v (.int .i64 7), .arr 1 [.v (.int .i64 1)], .v (.bool true), .v (.int .i64 7), .arr 1 [.v (.int .i64 1)], .arr 0 [], .arr 1 [.v (.int .i64 0)], .arr 0 []], .v (.int .i64 1)]
def r52_1 : AV := .tuple [.fresh 8 1 [.v (.int .i64 7), .arr 1 [.v (.int .i64 1)], .v (.bool false), .v (.int .i64 0), .arr 0 [], .arr 0 [], .arr 0 [], .arr 0 []], .v (.int .i64 0)]
theorem p52_1 : k52 a52_1 = some r52_1 := by kernel_rfl
def a52_2 : List AV := [.v (.int .i64 32), .agg [.v (.int .i64 0), .arr 0 [], .v (.bool false), .v (.bool false), .v (.bool false), .v (.bool false), .v (.bool false), .arr 0 [], .v (.bool false), .v (.int .u32 0), .v (.int .u32 0), .v (.int .u32 0), .v (.bool false), .v (.bool false), .v (.bool false), .v (.int .i64 0), .v (.int .i64 0), .v (.bool false), .v (.bool false), .v (.int .i64 0), .arr 0 [], .arr 0 [], .arr 0 [], .arr 0 [], .v (.int .i64 0), .v (.bool false), .v (.bool false), .v (.int .i64 0), .v (.int .i64 0), .v (.int .i64 0), .v (.bool false), .v (.int .i64 0), .arr 0 [], .arr 0 [], .arr 0 [], .arr 0 []], .arr 2 [.v (.int .i64 7), .arr 1 [.v (.int .i64 2)], .v (.bool true), .v (.int .i64 7), .arr 1 [.v (.int .i64 2)], .arr 0 [], .arr 2 [.v (.int .i64 (-7)), .v (.int .i64 7)], .arr 0 [], .v (.int .i64 7), .arr 1 [.v (.int .i64 2)], .v (.bool true), .v (.int .i64 7), .arr 1 [.v (.int .i64 2)], .arr 0 [], .arr 2 [.v (.int .i64 3), .v (.int .i64 (-3))], .arr 0 []], .v (.int .i64 1)]
def r52_2 : AV := .tuple [.fresh 8 1 [.v (.int .i64 7), .arr 1 [.v (.int .i64 2)], .v (.bool false), .v (.int .i64 0), .arr 0 [], .arr 0 [], .arr 0 [], .arr 0 []], .v (.int .i64 0)]
theorem p52_2 : k52 a52_2 = some r52_2 := by kernel_rfl
def a52_3 : List AV := [.v (.int .i64 32), .agg [.v (.int .i64 0), .arr 0 [], .v (.bool false), .v (.bool false), .v (.bool false), .v (.bool false), .v (.bool false), .arr 0 [], .v (.bool false), .v (.int .u32 0), .v (.int .u32 0), .v (.int .u32 0), .v (.bool false), .v (.bool false), .v (.bool true), .v (.int .i64 0), .v (.int .i64 0), .v (.bool false), .v (.bool false), .v (.int .i64 0), .arr 0 [], .arr 0 [], .arr 0 [], .arr 0 [], .v (.int .i64 0), .v (.bool false), .v (.bool false), .v (.int .i64 0), .v (.int .i64 0), .v (.int .i64 0), .v (.bool false), .v (.int .i64 0), .arr 0 [], .arr 0 [], .arr 0 [], .arr 0 []], .arr 2 [.v (.int .i64 1), .arr 1 [.v (.int .i64 1)], .v (.bool true), .v (.int .i64 1), .arr 1 [.v (.int .i64 1)], .arr 1 [.v (.int .u32 3236954112)], .arr 0 [], .arr 0 [], .v (.int .i64 1), .arr 1 [.v (.int .i64 1)], .v (.bool true), .v (.int .i64 1), .arr 1 [.v (.int .i64 1)], .arr 1 [.v (.int .u32 1073741824)], .arr 0 [], .arr 0 []], .v (.int .i64 1)]
def r52_3 : AV := .tuple [.fresh 8 1 [.v (.int .i64 1), .arr 1 [.v (.int .i64 1)], .v (.bool false), .v (.int .i64 0), .arr 0 [], .arr 0 [], .arr 0 [], .arr 0 []], .v (.int .i64 0)]
theorem p52_3 : k52 a52_3 = some r52_3 := by kernel_rfl
noncomputable def z52 : List AV → Option AV := fun xs => if sameL (sameA 8) xs a52_0 = true then some r52_0 else if sameL (sameA 8) xs a52_1 = true then some r52_1 else if sameL (sameA 8) xs a52_2 = true then some r52_2 else if sameL (sameA 8) xs a52_3 = true then some r52_3 else k52 xs
noncomputable def c51 : CallP := orC 52 z52 c50
theorem k52_ok (args : List AV) (r : AV) (h : k52 args = some r) : PureOK Tryz.prog 52 args r := by
  unfold k52 at h
  exact bodyP_ok mixed c50_ok q1_ok i52 h
theorem c51_ok : CpOK Tryz.prog c51 := orC_ok c50_ok fun args r h => by
  unfold z52 at h
  by_cases h0 : sameL (sameA 8) args a52_0 = true
  · rw [if_pos h0] at h; injection h with h; subst h; rw [sameL_eq (sameA_eq 8) h0]; exact k52_ok _ _ p52_0
  rw [if_neg h0] at h
  by_cases h1 : sameL (sameA 8) args a52_1 = true
  · rw [if_pos h1] at h; injection h with h; subst h; rw [sameL_eq (sameA_eq 8) h1]; exact k52_ok _ _ p52_1
  rw [if_neg h1] at h
  by_cases h2 : sameL (sameA 8) args a52_2 = true
  · rw [if_pos h2] at h; injection h with h; subst h; rw [sameL_eq (sameA_eq 8) h2]; exact k52_ok _ _ p52_2
  rw [if_neg h2] at h
  by_cases h3 : sameL (sameA 8) args a52_3 = true
  · rw [if_pos h3] at h; injection h with h; subst h; rw [sameL_eq (sameA_eq 8) h3]; exact k52_ok _ _ p52_3
  rw [if_neg h3] at h
  exact k52_ok _ _ h
def d53 : List (Nat × List Nat) := [(0, [5]), (0, [6, 26]), (0, [9, 10]), (0, []), (0, [12]), (0, []), (0, [13, 14, 15, 16, 17]), (0, []), (0, [18]), (0, []), (0, [20, 21]), (0, []), (0, [1, 7, 22, 23, 24, 25]), (0, []), (0, [0]), (0, []), (0, [27, 28, 29]), (0, []), (0, [31]), (0, []), (0, [32, 33, 34]), (0, []), (0, [36]), (0, []), (0, [37, 38, 39]), (0, []), (0, [8, 40])]
noncomputable def n53 : FInfo := ⟨bodyOf Tryz.f53, [.cell 4 28, .tmp 5], [28, 34]⟩
theorem i53 : finfo Tryz.prog 53 d53 = some n53 := finfo_at Tryz.func53 rfl (by kernel_rfl) (by kernel_rfl)
noncomputable def c52 : CallP := orC 53 (fun xs => bodyP Tryz.prog inl c51 q1 100 d53 n53 xs) c51
theorem c52_ok : CpOK Tryz.prog c52 := orC_ok c51_ok fun args r h => bodyP_ok mixed c51_ok q1_ok i53 h
def d25 : List (Nat × List Nat) := [(0, [1, 6, 7]), (0, [21, 22, 23]), (0, [14, 15]), (0, []), (0, []), (0, []), (0, [17, 18, 19, 20, 41005000008]), (0, []), (0, []), (0, []), (0, []), (0, []), (0, [25, 26]), (0, []), (0, [27, 28]), (0, []), (0, [30, 31]), (0, []), (0, [32]), (0, []), (0, [34]), (0, []), (1008, [10, 11, 35, 36, 37, 38, 39, 40, 41, 42, 43, 44, 45]), (0, []), (0, [46]), (0, []), (10, [0, 2, 4, 47, 48, 49, 50, 51, 52, 53, 54]), (0, []), (0, [55]), (0, []), (0, [57]), (0, []), (23384026197294446691298571404717660483291694666880, [58, 59, 60, 61, 62, 63, 64, 65, 66, 67, 68, 69, 70, 71, 72]), (0, []), (0, [12, 73, 74, 75, 76, 77, 78, 79, 80, 81, 82, 83]), (0, []), (0, [8, 13, 84, 85])]
noncomputable def n25 : FInfo := ⟨bodyOf Tryz.f25, [.tmp 6, .tmp 7], [56, 34]⟩
theorem i25 : finfo Tryz.prog 25 d25 = some n25 := finfo_at Tryz.func25 rfl (by kernel_rfl) (by kernel_rfl)
noncomputable def q2 : CallI := ciE Tryz.prog inl c52 q1 100 25 d25 n25 q1
theorem q2_ok : CiOK Tryz.prog q2 := ciE_ok mixed c52_ok q1_ok i25 q1_ok
def d195 : List (Nat × List Nat) := [(0, [2]), (0, [0, 4, 5]), (0, [6, 7, 8]), (0, []), (0, []), (0, []), (0, [9, 10, 11]), (0, []), (0, [12]), (0, []), (0, [14, 15]), (0, []), (0, [16, 17, 18, 19]), (0, []), (0, [20, 21, 22, 23, 24, 25]), (0, []), (0, [3, 26])]
noncomputable def n195 : FInfo := ⟨bodyOf Tryz.f195, [.tmp 2], [22]⟩
theorem i195 : finfo Tryz.prog 195 d195 = some n195 := finfo_at Tryz.func195 rfl (by kernel_rfl) (by kernel_rfl)
noncomputable def c53 : CallP := orC 195 (fun xs => bodyP Tryz.prog inl c52 q2 100 d195 n195 xs) c52
theorem c53_ok : CpOK Tryz.prog c53 := orC_ok c52_ok fun args r h => bodyP_ok mixed c52_ok q2_ok i195 h
def d194 : List (Nat × List Nat) := [(0, [4, 5]), (0, [1, 30, 31, 32]), (0, [11, 12, 13, 14, 15]), (0, []), (0, [16]), (0, []), (0, [18]), (0, []), (0, [6, 7, 19, 20, 21, 22, 23, 24]), (0, []), (0, []), (0, []), (0, [26, 27, 28]), (0, []), (0, [0, 29]), (0, []), (0, []), (0, []), (0, [34, 35, 36]), (0, []), (0, [9, 37, 38, 39, 40, 41, 42]), (0, []), (0, [10, 43, 44, 45]), (0, []), (0, [46]), (0, []), (0, [8, 47])]
noncomputable def n194 : FInfo := ⟨bodyOf Tryz.f194, [.tmp 4, .tmp 5], [22, 34]⟩
theorem i194 : finfo Tryz.prog 194 d194 = some n194 := finfo_at Tryz.func194 rfl (by kernel_rfl) (by kernel_rfl)
noncomputable def c54 : CallP := orC 194 (fun xs => bodyP Tryz.prog inl c53 q2 100 d194 n194 xs) c53
theorem c54_ok : CpOK Tryz.prog c54 := orC_ok c53_ok fun args r h => bodyP_ok mixed c53_ok q2_ok i194 h
def d115 : List (Nat × List Nat) := [(0, [6, 7]), (0, [0, 14, 65, 66, 67]), (0, [8, 18, 19, 20, 21, 22]), (0, [16, 17]), (0, [23]), (0, []), (0, [25]), (0, []), (0, [9, 10, 26, 27, 28, 29, 30]), (0, []), (0, [31]), (0, []), (0, [33]), (0, []), (0, [11, 34, 35, 36, 37, 38, 39]), (0, []), (0, [12, 13, 40, 41, 42, 43, 44, 45, 46]), (0, []), (0, []), (0, []), (0, [2, 48, 49, 50, 51, 52, 53, 1000000014]), (0, []), (0, [54]), (0, []), (0, [56]), (0, []), (0, [1, 13, 57, 58, 59, 60, 61, 62, 63]), (0, []), (0, []), (0, []), (0, [64]), (0, []), (0, []), (0, []), (0, [69, 70, 71]), (0, []), (0, [72, 73, 74, 75]), (0, []), (0, [77, 78, 79, 80, 81, 82, 83, 84]), (0, []), (0, [85]), (0, []), (0, [15, 86])]
noncomputable def n115 : FInfo := ⟨bodyOf Tryz.f115, [.tmp 6, .tmp 7], [3, 34]⟩
theorem i115 : finfo Tryz.prog 115 d115 = some n115 := finfo_at Tryz.func115 rfl (by kernel_rfl) (by kernel_rfl)
noncomputable def c55 : CallP := orC 115 (fun xs => bodyP Tryz.prog inl c54 q2 100 d115 n115 xs) c54
theorem c55_ok : CpOK Tryz.prog c55 := orC_ok c54_ok fun args r h => bodyP_ok mixed c54_ok q2_ok i115 h
def d55 : List (Nat × List Nat) := [(0, [6]), (0, []), (20, [0, 1, 2, 8, 9, 10, 11, 12, 13, 14, 15, 16, 17, 18, 19, 20, 21, 22, 23, 24, 25, 26]), (0, []), (0, [7, 27])]
noncomputable def n55 : FInfo := ⟨bodyOf Tryz.f55, [.tmp 6], [3]⟩
theorem i55 : finfo Tryz.prog 55 d55 = some n55 := finfo_at Tryz.func55 rfl (by kernel_rfl) (by kernel_rfl)
noncomputable def c56 : CallP := orC 55 (fun xs => bodyP Tryz.prog inl c55 q2 100 d55 n55 xs) c55
theorem c56_ok : CpOK Tryz.prog c56 := orC_ok c55_ok fun args r h => bodyP_ok mixed c55_ok q2_ok i55 h
def d26 : List (Nat × List Nat) := [(0, [2]), (0, [0, 29, 30]), (0, [4, 5, 6, 7, 8, 9, 10, 11, 12, 13, 14, 15, 16, 17, 18, 19, 20, 21, 22, 23, 24]), (0, []), (0, []), (0, []), (0, [26, 27, 28]), (0, []), (0, []), (0, []), (0, [32]), (0, []), (13, [3, 33, 34, 35, 36, 37, 38, 39, 40, 41, 42, 43, 44]), (0, []), (0, []), (0, []), (0, [46]), (0, []), (0, [])]
noncomputable def n26 : FInfo := ⟨bodyOf Tryz.f26, [.tmp 2], [4]⟩
theorem i26 : finfo Tryz.prog 26 d26 = some n26 := finfo_at Tryz.func26 rfl (by kernel_rfl) (by kernel_rfl)
noncomputable def c57 : CallP := orC 26 (fun xs => bodyP Tryz.prog inl c56 q2 100 d26 n26 xs) c56
theorem c57_ok : CpOK Tryz.prog c57 := orC_ok c56_ok fun args r h => bodyP_ok mixed c56_ok q2_ok i26 h
def d126 : List (Nat × List Nat) := [(0, [2]), (0, []), (0, [0, 3, 4, 5])]
noncomputable def n126 : FInfo := ⟨bodyOf Tryz.f126, [.tmp 2], [4]⟩
theorem i126 : finfo Tryz.prog 126 d126 = some n126 := finfo_at Tryz.func126 rfl (by kernel_rfl) (by kernel_rfl)
noncomputable def c58 : CallP := orC 126 (fun xs => bodyP Tryz.prog inl c57 q2 100 d126 n126 xs) c57
theorem c58_ok : CpOK Tryz.prog c58 := orC_ok c57_ok fun args r h => bodyP_ok mixed c57_ok q2_ok i126 h
def d361 : List (Nat × List Nat) := [(0, []), (0, []), (0, [3]), (0, []), (0, [5, 6]), (0, []), (0, []), (0, []), (0, [7]), (0, []), (0, [9, 10]), (0, []), (0, [11, 12]), (0, []), (0, [13]), (0, []), (0, [15, 16]), (0, []), (0, [17, 18]), (0, []), (0, [0, 19, 20, 21, 22, 23, 24])]
noncomputable def n361 : FInfo := ⟨bodyOf Tryz.f361, [.tmp 2], [3]⟩
theorem i361 : finfo Tryz.prog 361 d361 = some n361 := finfo_at Tryz.func361 rfl (by kernel_rfl) (by kernel_rfl)
noncomputable def c59 : CallP := orC 361 (fun xs => bodyP Tryz.prog inl c58 q2 100 d361 n361 xs) c58
theorem c59_ok : CpOK Tryz.prog c59 := orC_ok c58_ok fun args r h => bodyP_ok mixed c58_ok q2_ok i361 h
def d364 : List (Nat × List Nat) := [(0, [2]), (0, []), (0, [0]), (0, []), (0, []), (0, []), (0, [])]
noncomputable def n364 : FInfo := ⟨bodyOf Tryz.f364, [.tmp 2], [23]⟩
theorem i364 : finfo Tryz.prog 364 d364 = some n364 := finfo_at Tryz.func364 rfl (by kernel_rfl) (by kernel_rfl)
noncomputable def c60 : CallP := orC 364 (fun xs => bodyP Tryz.prog inl c59 q2 100 d364 n364 xs) c59
theorem c60_ok : CpOK Tryz.prog c60 := orC_ok c59_ok fun args r h => bodyP_ok mixed c59_ok q2_ok i364 h
def d313 : List (Nat × List Nat) := [(0, [10]), (0, []), (0, [21, 22]), (0, [3, 4, 11]), (0, [24, 25, 26, 27, 28, 29]), (0, [14, 15, 16, 99, 111]), (0, [30, 31]), (0, []), (0, [33, 34, 35, 36, 37, 38]), (0, []), (0, [39, 40, 41]), (0, []), (0, [43, 44]), (0, []), (0, [45, 46, 47]), (0, []), (0, [48, 49, 50, 51, 52]), (0, []), (0, []), (0, []), (0, [53]), (0, []), (0, [54, 55, 56]), (0, []), (0, [57, 58, 59, 60, 61]), (0, []), (0, [62, 63, 64]), (0, []), (0, [65, 66, 67, 68, 69, 70, 71, 72, 73, 74, 75]), (0, []), (0, [18, 76, 77, 78, 79, 80, 81, 82]), (0, []), (0, [17, 83, 84, 85, 86, 87]), (0, []), (0, [89, 90]), (0, []), (0, [91, 92, 93, 94]), (0, []), (0, [96, 97, 98]), (0, []), (0, []), (0, []), (0, []), (0, []), (0, [100, 101, 102, 103, 104, 105, 106, 107]), (0, []), (0, [109, 110]), (0, []), (0, [112]), (0, []), (0, [113]), (0, []), (0, [114, 115, 116, 117, 118]), (0, []), (0, [120, 121]), (0, []), (0, [2, 12, 122, 123, 124]), (0, []), (0, [125]), (0, []), (0, [127, 128]), (0, []), (0, [129]), (0, []), (0, [131, 132, 133]), (0, []), (0, [13, 19, 134, 135, 136, 137, 138, 139]), (0, []), (0, [140]), (0, []), (0, [142, 143, 144]), (0, []), (0, [0, 1, 20, 145, 146, 147, 148, 149]), (0, []), (0, []), (0, []), (0, []), (0, []), (0, []), (0, []), (0, []), (0, []), (0, []), (0, []), (0, []), (0, []), (0, []), (0, []), (0, []), (0, []), (0, []), (0, []), (0, []), (0, []), (0, []), (0, []), (0, []), (0, []), (0, []), (0, []), (0, []), (0, []), (0, []), (0, []), (0, []), (0, []), (0, []), (0, []), (0, []), (0, []), (0, []), (0, []), (0, []), (0, []), (0, []), (0, []), (0, []), (0, []), (0, []), (0, []), (0, []), (0, []), (0, []), (0, []), (0, []), (0, []), (0, []), (0, []), (0, []), (0, []), (0, []), (0, []), (0, []), (0, []), (0, []), (0, []), (0, []), (0, []), (0, []), (0, []), (0, []), (0, []), (0, []), (0, []), (0, []), (0, []), (0, []), (0, []), (0, []), (0, []), (0, []), (0, []), (0, []), (0, []), (0, []), (0, []), (0, []), (0, []), (0, []), (0, []), (0, []), (0, []), (0, []), (0, []), (0, []), (0, []), (0, []), (0, []), (0, []), (0, []), (0, []), (0, []), (0, []), (0, []), (0, []), (0, []), (0, []), (0, []), (0, []), (0, []), (0, []), (0, []), (0, []), (0, []), (0, []), (0, []), (0, []), (0, []), (0, []), (0, []), (0, []), (0, []), (0, []), (0, []), (0, []), (0, []), (0, []), (0, []), (0, []), (0, []), (0, []), (0, []), (0, []), (0, []), (0, []), (0, []), (0, []), (0, []), (0, []), (0, []), (0, []), (0, []), (0, []), (0, []), (0, []), (0, []), (0, []), (0, []), (0, []), (0, []), (0, []), (0, []), (0, []), (1, [])]
noncomputable def n313 : FInfo := ⟨bodyOf Tryz.f313, [.tmp 10], [23]⟩
theorem i313 : finfo Tryz.prog 313 d313 = some n313 := finfo_at Tryz.func313 rfl (by kernel_rfl) (by kernel_rfl)
noncomputable def c61 : CallP := orC 313 (fun xs => bodyP Tryz.prog inl c60 q2 100 d313 n313 xs) c60
theorem c61_ok : CpOK Tryz.prog c61 := orC_ok c60_ok fun args r h => bodyP_ok mixed c60_ok q2_ok i313 h
def d363 : List (Nat × List Nat) := [(0, []), (0, [3, 4]), (0, [6, 7, 8, 9]), (0, []), (0, [10, 11, 12]), (0, []), (0, [0, 13, 14, 15, 16]), (0, []), (0, [17, 18, 19, 20, 21, 22]), (0, []), (0, [24, 25]), (0, []), (0, [26, 27, 28]), (0, []), (0, [29, 30, 31]), (0, []), (0, [33, 34]), (0, []), (0, [35, 36, 37]), (0, []), (0, [5, 38])]
noncomputable def n363 : FInfo := ⟨bodyOf Tryz.f363, [.cell 2 236], [236]⟩
theorem i363 : finfo Tryz.prog 363 d363 = some n363 := finfo_at Tryz.func363 rfl (by kernel_rfl) (by kernel_rfl)
noncomputable def c62 : CallP := orC 363 (fun xs => bodyP Tryz.prog inl c61 q2 100 d363 n363 xs) c61
theorem c62_ok : CpOK Tryz.prog c62 := orC_ok c61_ok fun args r h => bodyP_ok mixed c61_ok q2_ok i363 h
def d308 : List (Nat × List Nat) := [(0, [6]), (0, [1, 2]), (0, [14, 15, 16, 17]), (0, [7, 13]), (0, [19, 20, 21, 22, 23, 24, 25, 26, 27, 28, 29, 30, 31, 32, 33, 34, 35, 36, 37, 38, 39]), (0, []), (0, []), (0, []), (0, [41, 42]), (0, []), (0, [43]), (0, []), (0, [45, 46]), (0, []), (0, [47]), (0, []), (0, [49, 50, 51, 52, 53, 54, 55, 56]), (0, []), (0, [57, 58]), (0, []), (0, [60]), (0, []), (0, [61, 62]), (0, []), (0, [63, 64, 65, 66]), (0, []), (0, [68, 69]), (0, []), (0, [70, 71, 72, 73, 74]), (0, []), (10, [75, 76, 77, 78, 79, 80]), (0, []), (0, [81]), (0, []), (0, [83, 84, 85]), (0, []), (0, [86, 87]), (0, []), (0, [88, 89, 90]), (0, []), (0, [91, 92, 93, 94, 95]), (0, []), (8, [96, 97, 98, 99, 100, 101, 102]), (0, []), (0, [9, 104, 105, 106, 107, 108]), (0, []), (0, [109, 110, 111, 112, 113, 114, 115, 116, 117]), (0, []), (0, [119]), (0, []), (0, [120, 121, 122, 123, 124, 125, 126, 127, 128]), (0, []), (0, [130, 131, 132]), (0, []), (0, [133, 134]), (0, []), (0, [136, 137, 138]), (0, []), (0, [139, 140, 141, 142, 143, 144, 145, 146]), (0, []), (0, [0, 8, 10, 11, 12, 147, 148, 149, 150, 151, 152, 153, 154])]
noncomputable def n308 : FInfo := ⟨bodyOf Tryz.f308, [.tmp 6], [23]⟩
theorem i308 : finfo Tryz.prog 308 d308 = some n308 := finfo_at Tryz.func308 rfl (by kernel_rfl) (by kernel_rfl)
noncomputable def c63 : CallP := orC 308 (fun xs => bodyP Tryz.prog inl c62 q2 100 d308 n308 xs) c62
theorem c63_ok : CpOK Tryz.prog c63 := orC_ok c62_ok fun args r h => bodyP_ok mixed c62_ok q2_ok i308 h
def d216 : List (Nat × List Nat) := [(0, [4]), (0, []), (0, [0, 1, 5, 6, 7])]
noncomputable def n216 : FInfo := ⟨bodyOf Tryz.f216, [.tmp 4], [23]⟩
theorem i216 : finfo Tryz.prog 216 d216 = some n216 := finfo_at Tryz.func216 rfl (by kernel_rfl) (by kernel_rfl)
noncomputable def c64 : CallP := orC 216 (fun xs => bodyP Tryz.prog inl c63 q2 100 d216 n216 xs) c63
theorem c64_ok : CpOK Tryz.prog c64 := orC_ok c63_ok fun args r h => bodyP_ok mixed c63_ok q2_ok i216 h
def d312 : List (Nat × List Nat) := [(0, [2, 3]), (0, []), (0, [6, 7, 8, 9]), (0, []), (0, [0, 10, 11, 12]), (0, []), (0, [13]), (0, []), (0, [15]), (0, []), (0, [4, 5, 16, 17, 18])]
noncomputable def n312 : FInfo := ⟨bodyOf Tryz.f312, [.tmp 2, .tmp 3], [172, 3]⟩
theorem i312 : finfo Tryz.prog 312 d312 = some n312 := finfo_at Tryz.func312 rfl (by kernel_rfl) (by kernel_rfl)
noncomputable def c65 : CallP := orC 312 (fun xs => bodyP Tryz.prog inl c64 q2 100 d312 n312 xs) c64
theorem c65_ok : CpOK Tryz.prog c65 := orC_ok c64_ok fun args r h => bodyP_ok mixed c64_ok q2_ok i312 h
def d217 : List (Nat × List Nat) := [(0, [4]), (0, []), (0, [10, 11, 12, 13, 14, 15, 16, 17, 18, 19, 20, 21, 22, 23, 24]), (0, [6, 7]), (0, []), (0, []), (0, [26, 27]), (0, []), (0, [28]), (0, []), (0, [29, 30, 31, 32, 33]), (0, []), (0, [1, 34, 35, 36, 37, 38]), (0, []), (0, [39, 40]), (0, []), (0, [42, 43, 44]), (0, []), (0, [46]), (0, []), (0, [47, 48, 49, 50, 51]), (0, []), (0, [52]), (0, []), (0, [53, 54, 55]), (0, []), (0, [56, 57]), (0, []), (0, [59, 60]), (0, []), (0, [61, 62, 63, 64]), (0, []), (0, [0, 5, 8, 65, 66, 67, 68, 69, 70, 71])]
noncomputable def n217 : FInfo := ⟨bodyOf Tryz.f217, [.tmp 4], [23]⟩
theorem i217 : finfo Tryz.prog 217 d217 = some n217 := finfo_at Tryz.func217 rfl (by kernel_rfl) (by kernel_rfl)
noncomputable def c66 : CallP := orC 217 (fun xs => bodyP Tryz.prog inl c65 q2 100 d217 n217 xs) c65
theorem c66_ok : CpOK Tryz.prog c66 := orC_ok c65_ok fun args r h => bodyP_ok mixed c65_ok q2_ok i217 h
def d196 : List (Nat × List Nat) := [(0, [0, 2]), (0, []), (0, [1, 3])]
noncomputable def n196 : FInfo := ⟨bodyOf Tryz.f196, [.tmp 2], [84]⟩
theorem i196 : finfo Tryz.prog 196 d196 = some n196 := finfo_at Tryz.func196 rfl (by kernel_rfl) (by kernel_rfl)
noncomputable def c67 : CallP := orC 196 (fun xs => bodyP Tryz.prog inl c66 q2 100 d196 n196 xs) c66
theorem c67_ok : CpOK Tryz.prog c67 := orC_ok c66_ok fun args r h => bodyP_ok mixed c66_ok q2_ok i196 h
def d207 : List (Nat × List Nat) := [(0, [0, 2]), (0, []), (0, [1, 3])]
noncomputable def n207 : FInfo := ⟨bodyOf Tryz.f207, [.tmp 2], [84]⟩
theorem i207 : finfo Tryz.prog 207 d207 = some n207 := finfo_at Tryz.func207 rfl (by kernel_rfl) (by kernel_rfl)
noncomputable def c68 : CallP := orC 207 (fun xs => bodyP Tryz.prog inl c67 q2 100 d207 n207 xs) c67
theorem c68_ok : CpOK Tryz.prog c68 := orC_ok c67_ok fun args r h => bodyP_ok mixed c67_ok q2_ok i207 h
def d219 : List (Nat × List Nat) := [(0, [2]), (0, [3]), (0, [0]), (0, []), (0, [5]), (0, []), (0, []), (0, []), (0, [7]), (0, []), (0, []), (0, []), (0, [9]), (0, []), (0, []), (0, []), (0, [11]), (0, []), (0, []), (0, []), (0, [13]), (0, []), (0, []), (0, []), (0, [15]), (0, []), (0, []), (0, []), (0, [17]), (0, []), (0, []), (0, []), (0, [19]), (0, []), (0, []), (0, []), (0, [])]
noncomputable def n219 : FInfo := ⟨bodyOf Tryz.f219, [.tmp 2], [81]⟩
theorem i219 : finfo Tryz.prog 219 d219 = some n219 := finfo_at Tryz.func219 rfl (by kernel_rfl) (by kernel_rfl)
noncomputable def c69 : CallP := orC 219 (fun xs => bodyP Tryz.prog inl c68 q2 100 d219 n219 xs) c68
theorem c69_ok : CpOK Tryz.prog c69 := orC_ok c68_ok fun args r h => bodyP_ok mixed c68_ok q2_ok i219 h
def d116 : List (Nat × List Nat) := [(0, [1, 4]), (0, [3, 5]), (0, []), (0, []), (0, [7]), (0, []), (0, [8]), (0, []), (0, [10]), (0, []), (0, [11]), (0, []), (0, [13]), (0, []), (0, [14]), (0, []), (0, [16]), (0, []), (0, [17]), (0, []), (0, [19]), (0, []), (0, [20]), (0, []), (0, [22]), (0, []), (0, [23]), (0, []), (0, [25]), (0, []), (0, [26]), (0, []), (0, [28]), (0, []), (0, []), (0, []), (0, [30]), (0, []), (0, []), (0, []), (0, [32]), (0, []), (0, [33, 34]), (0, []), (0, [36]), (0, []), (0, [37]), (0, []), (0, [39]), (0, []), (0, [40, 41]), (0, []), (0, [43]), (0, []), (0, [44]), (0, []), (0, [46]), (0, []), (0, []), (0, []), (0, [48]), (0, []), (0, []), (0, []), (0, [50]), (0, []), (0, []), (0, []), (0, [52]), (0, []), (0, []), (0, []), (0, [54]), (0, []), (0, []), (0, []), (0, [56]), (0, []), (0, []), (0, []), (0, [58]), (0, []), (0, []), (0, []), (0, [60]), (0, []), (0, []), (0, []), (0, [0, 61, 62, 63])]
noncomputable def n116 : FInfo := ⟨bodyOf Tryz.f116, [.tmp 4], [84]⟩
theorem i116 : finfo Tryz.prog 116 d116 = some n116 := finfo_at Tryz.func116 rfl (by kernel_rfl) (by kernel_rfl)
noncomputable def c70 : CallP := orC 116 (fun xs => bodyP Tryz.prog inl c69 q2 100 d116 n116 xs) c69
theorem c70_ok : CpOK Tryz.prog c70 := orC_ok c69_ok fun args r h => bodyP_ok mixed c69_ok q2_ok i116 h
def d227 : List (Nat × List Nat) := [(0, [4]), (0, []), (0, [5]), (0, []), (0, [7, 8]), (0, []), (0, [0, 1, 9, 10, 11])]
noncomputable def n227 : FInfo := ⟨bodyOf Tryz.f227, [.tmp 4], [2]⟩
theorem i227 : finfo Tryz.prog 227 d227 = some n227 := finfo_at Tryz.func227 rfl (by kernel_rfl) (by kernel_rfl)
noncomputable def c71 : CallP := orC 227 (fun xs => bodyP Tryz.prog inl c70 q2 100 d227 n227 xs) c70
theorem c71_ok : CpOK Tryz.prog c71 := orC_ok c70_ok fun args r h => bodyP_ok mixed c70_ok q2_ok i227 h
def d323 : List (Nat × List Nat) := [(0, [5]), (0, []), (0, [0, 7, 8, 9, 10, 11, 12, 13]), (0, []), (0, [2, 14, 15, 16, 17, 18, 19, 20, 21, 22, 23, 24]), (0, []), (0, [26, 27, 28]), (0, []), (0, [1, 6, 29])]
noncomputable def n323 : FInfo := ⟨bodyOf Tryz.f323, [.tmp 5], [2]⟩
theorem i323 : finfo Tryz.prog 323 d323 = some n323 := finfo_at Tryz.func323 rfl (by kernel_rfl) (by kernel_rfl)
noncomputable def c72 : CallP := orC 323 (fun xs => bodyP Tryz.prog inl c71 q2 100 d323 n323 xs) c71
theorem c72_ok : CpOK Tryz.prog c72 := orC_ok c71_ok fun args r h => bodyP_ok mixed c71_ok q2_ok i323 h
def d228 : List (Nat × List Nat) := [(0, [0, 2]), (0, []), (0, [1, 3])]
noncomputable def n228 : FInfo := ⟨bodyOf Tryz.f228, [.tmp 2], [85]⟩
theorem i228 : finfo Tryz.prog 228 d228 = some n228 := finfo_at Tryz.func228 rfl (by kernel_rfl) (by kernel_rfl)
noncomputable def c73 : CallP := orC 228 (fun xs => bodyP Tryz.prog inl c72 q2 100 d228 n228 xs) c72
theorem c73_ok : CpOK Tryz.prog c73 := orC_ok c72_ok fun args r h => bodyP_ok mixed c72_ok q2_ok i228 h
def d117 : List (Nat × List Nat) := [(0, [1, 4]), (0, [3, 5]), (0, [0]), (0, []), (0, [7]), (0, []), (0, []), (0, []), (0, [9]), (0, []), (0, []), (0, []), (0, [11]), (0, []), (0, []), (0, []), (0, [13]), (0, []), (0, []), (0, []), (0, [15]), (0, []), (0, []), (0, []), (0, [17]), (0, []), (0, []), (0, []), (0, [19]), (0, []), (0, []), (0, []), (0, [21]), (0, []), (0, [22, 23, 24]), (0, []), (0, [26]), (0, []), (0, []), (0, []), (0, [28]), (0, []), (0, []), (0, []), (0, [])]
noncomputable def n117 : FInfo := ⟨bodyOf Tryz.f117, [.tmp 4], [85]⟩
theorem i117 : finfo Tryz.prog 117 d117 = some n117 := finfo_at Tryz.func117 rfl (by kernel_rfl) (by kernel_rfl)
noncomputable def c74 : CallP := orC 117 (fun xs => bodyP Tryz.prog inl c73 q2 100 d117 n117 xs) c73
theorem c74_ok : CpOK Tryz.prog c74 := orC_ok c73_ok fun args r h => bodyP_ok mixed c73_ok q2_ok i117 h
def d56 : List (Nat × List Nat) := [(0, [1]), (0, [3, 13]), (8, [6, 7, 8, 9, 10, 11, 12]), (0, []), (0, [0]), (0, []), (0, [15]), (0, []), (0, [16]), (0, []), (0, [18]), (0, []), (0, [19]), (0, []), (0, [21]), (0, []), (0, [22]), (0, []), (0, [24]), (0, []), (0, [25]), (0, []), (0, [27]), (0, []), (0, [28]), (0, []), (0, [30]), (0, []), (0, [31, 32]), (0, []), (0, [34]), (0, []), (0, [35]), (0, []), (0, [36]), (0, []), (0, [37]), (0, []), (0, [39]), (0, []), (0, [40]), (0, []), (0, [41]), (0, []), (0, [43]), (0, []), (0, [44]), (0, []), (0, [45]), (0, []), (0, [47]), (0, []), (0, [48]), (0, []), (0, [49]), (0, []), (0, [51]), (0, []), (0, [52]), (0, []), (0, [53]), (0, []), (0, [5, 54])]
noncomputable def n56 : FInfo := ⟨bodyOf Tryz.f56, [.cell 4 90], [90]⟩
theorem i56 : finfo Tryz.prog 56 d56 = some n56 := finfo_at Tryz.func56 rfl (by kernel_rfl) (by kernel_rfl)
noncomputable def c75 : CallP := orC 56 (fun xs => bodyP Tryz.prog inl c74 q2 100 d56 n56 xs) c74
theorem c75_ok : CpOK Tryz.prog c75 := orC_ok c74_ok fun args r h => bodyP_ok mixed c74_ok q2_ok i56 h
def d60 : List (Nat × List Nat) := [(0, [1]), (0, [0, 2, 4, 6, 7, 8, 9]), (1766847064778384329583328192277302464788767441907706228294420472581489728, [10, 11, 12, 13, 14, 15, 16, 17, 18, 19, 20, 21, 22, 23, 24, 25, 26, 27]), (0, []), (14, [28, 29, 30, 31, 32, 33, 34, 35, 36, 37, 38, 39]), (0, []), (20, [40, 41, 42, 43, 44, 45, 46, 47, 48, 49, 50, 51, 52, 53, 54, 55, 56, 57, 58, 59]), (0, []), (0, [61, 62, 63, 64, 65, 66, 67, 68, 69, 70, 71]), (0, []), (21, [72, 73, 74, 75, 76, 77, 78, 79, 80, 81, 82, 83, 84, 85, 86, 87, 88, 89, 90, 91, 92]), (0, []), (0, [94, 95, 96]), (0, []), (20, [97, 98, 99, 100, 101, 102, 103, 104, 105, 106, 107, 108, 109, 110, 111, 112, 113, 114, 115, 116]), (0, []), (0, [118, 119, 120, 121, 122, 123, 124, 125, 126, 127, 128]), (0, []), (20, [129, 130, 131, 132, 133, 134, 135, 136, 137, 138, 139, 140, 141, 142, 143, 144, 145, 146, 147, 148]), (0, []), (0, [150, 151, 152]), (0, []), (20, [153, 154, 155, 156, 157, 158, 159, 160, 161, 162, 163, 164, 165, 166, 167, 168, 169, 170, 171, 172])]
noncomputable def n60 : FInfo := ⟨bodyOf Tryz.f60, [], []⟩
theorem i60 : finfo Tryz.prog 60 d60 = some n60 := finfo_at Tryz.func60 rfl (by kernel_rfl) (by kernel_rfl)
noncomputable def q3 : CallI := ciE Tryz.prog inl c75 q2 100 60 d60 n60 q2
theorem q3_ok : CiOK Tryz.prog q3 := ciE_ok mixed c75_ok q2_ok i60 q2_ok
def d27 : List (Nat × List Nat) := [(10, [8, 9, 10, 11, 12, 13, 14, 15, 16]), (0, [0, 2, 6, 7]), (0, [1, 17]), (0, []), (0, [18, 19]), (0, [26]), (0, [21, 22]), (0, []), (0, [23, 24, 25]), (0, []), (0, [27, 28, 29, 30]), (0, []), (0, [32]), (0, []), (12, [33, 34, 35, 36, 37, 38, 39, 40, 41, 42, 43]), (0, []), (0, [45, 46, 47]), (0, []), (0, [48, 49, 50]), (0, []), (0, [52]), (0, []), (0, [53, 54, 55]), (0, []), (0, [57]), (0, []), (0, [58, 59, 60])]
noncomputable def n27 : FInfo := ⟨bodyOf Tryz.f27, [], []⟩
theorem i27 : finfo Tryz.prog 27 d27 = some n27 := finfo_at Tryz.func27 rfl (by kernel_rfl) (by kernel_rfl)
noncomputable def q4 : CallI := ciE Tryz.prog inl c75 q3 100 27 d27 n27 q3
theorem q4_ok : CiOK Tryz.prog q4 := ciE_ok mixed c75_ok q3_ok i27 q3_ok
def d11 : List (Nat × List Nat) := [(0, [1, 7]), (0, []), (0, [0, 2, 4, 10, 11, 12, 13, 14, 15, 16]), (0, []), (0, [17]), (0, []), (0, [19, 20]), (0, []), (0, [9, 21]), (0, []), (0, [23]), (0, []), (0, [24, 25, 26, 27, 28, 29]), (0, []), (0, [8, 30, 31, 32, 33])]
noncomputable def n11 : FInfo := ⟨bodyOf Tryz.f11, [.cell 6 28, .tmp 7], [28, 34]⟩
theorem i11 : finfo Tryz.prog 11 d11 = some n11 := finfo_at Tryz.func11 rfl (by kernel_rfl) (by kernel_rfl)
noncomputable def k11 : List AV → Option AV := fun xs => bodyP Tryz.prog inl c75 q4 100 d11 n11 xs
def a11_0 : List AV := [.v (.int .i64 28), .agg [.v (.int .i64 0), .arr 0 [], .v (.bool false), .v (.bool false), .v (.bool false), .v (.bool false), .v (.bool false), .arr 0 [], .v (.bool false), .v (.int .u32 0), .v (.int .u32 0), .v (.int .u32 0), .v (.bool false), .v (.bool false), .v (.bool false), .v (.int .i64 0), .v (.int .i64 0), .v (.bool false), .v (.bool false), .v (.int .i64 0), .arr 0 [], .arr 0 [], .arr 0 [], .arr 0 [], .v (.int .i64 0), .v (.bool false), .v (.bool false), .v (.int .i64 0), .v (.int .i64 0), .v (.int .i64 0), .v (.bool false), .v (.int .i64 0), .arr 0 [], .arr 0 [], .arr 0 [], .arr 0 []], .arr 2 [.v (.int .i64 1), .arr 1 [.v (.int .i64 1)], .arr 1 [.v (.int .u32 1065353216)], .arr 0 [], .arr 0 [], .v (.int .i64 1), .arr 1 [.v (.int .i64 2)], .arr 2 [.v (.int .u32 1073741824), .v (.int .u32 1077936128)], .arr 0 [], .arr 0 []]]
def r11_0 : AV := .tuple [.agg [.v (.int .i64 1), .fresh 1 1 [.v (.int .i64 2)], .fresh 1 2 [.v (.int .u32 1077936128), .v (.int .u32 1082130432)], .fresh 1 0 [], .fresh 1 0 []], .v (.int .i64 0)]
theorem p11_0 : k11 a11_0 = some r11_0 := by kernel_rfl
def a11_1 : List AV := [.v (.int .i64 31), .agg [.v (.int .i64 0), .arr 0 [], .v (.bool false), .v (.bool false), .v (.bool false), .v (.bool false), .v (.bool false), .arr 0 [], .v (.bool false), .v (.int .u32 0), .v (.int .u32 0), .v (.int .u32 0), .v (.bool false), .v (.bool false), .v (.bool false), .v (.int .i64 0), .v (.int .i64 0), .v (.bool false), .v (.bool false), .v (.int .i64 0), .arr 0 [], .arr 0 [], .arr 0 [], .arr 0 [], .v (.int .i64 0), .v (.bool false), .v (.bool false), .v (.int .i64 0), .v (.int .i64 0), .v (.int .i64 0), .v (.bool false), .v (.int .i64 0), .arr 0 [], .arr 0 [], .arr 0 [], .arr 0 []], .arr 2 [.v (.int .i64 7), .arr 1 [.v (.int .i64 1)], .arr 0 [], .arr 1 [.v (.int .i64 7)], .arr 0 [], .v (.int .i64 7), .arr 1 [.v (.int .i64 1)], .arr 0 [], .arr 1 [.v (.int .i64 0)], .arr 0 []]]
def r11_1 : AV := .tuple [.agg [.v (.int .i64 0), .fresh 1 0 [], .fresh 1 0 [], .fresh 1 0 [], .fresh 1 0 []], .v (.int .i64 10)]
theorem p11_1 : k11 a11_1 = some r11_1 := by kernel_rfl
def a11_2 : List AV := [.v (.int .i64 32), .agg [.v (.int .i64 0), .arr 0 [], .v (.bool false), .v (.bool false), .v (.bool false), .v (.bool false), .v (.bool false), .arr 0 [], .v (.bool false), .v (.int .u32 0), .v (.int .u32 0), .v (.int .u32 0), .v (.bool false), .v (.bool false), .v (.bool false), .v (.int .i64 0), .v (.int .i64 0), .v (.bool false), .v (.bool false), .v (.int .i64 0), .arr 0 [], .arr 0 [], .arr 0 [], .arr 0 [], .v (.int .i64 0), .v (.bool false), .v (.bool false), .v (.int .i64 0), .v (.int .i64 0), .v (.int .i64 0), .v (.bool false), .v (.int .i64 0), .arr 0 [], .arr 0 [], .arr 0 [], .arr 0 []], .arr 2 [.v (.int .i64 7), .arr 1 [.v (.int .i64 2)], .arr 0 [], .arr 2 [.v (.int .i64 (-7)), .v (.int .i64 7)], .arr 0 [], .v (.int .i64 7), .arr 1 [.v (.int .i64 2)], .arr 0 [], .arr 2 [.v (.int .i64 3), .v (.int .i64 (-3))], .arr 0 []]]
def r11_2 : AV := .tuple [.agg [.v (.int .i64 7), .fresh 1 1 [.v (.int .i64 2)], .fresh 1 0 [], .fresh 1 2 [.v (.int .i64 2), .v (.int .i64 (-2))], .fresh 1 0 []], .v (.int .i64 0)]
theorem p11_2 : k11 a11_2 = some r11_2 := by kernel_rfl
def a11_3 : List AV := [.v (.int .i64 32), .agg [.v (.int .i64 0), .arr 0 [], .v (.bool false), .v (.bool false), .v (.bool false), .v (.bool false), .v (.bool false), .arr 0 [], .v (.bool false), .v (.int .u32 0), .v (.int .u32 0), .v (.int .u32 0), .v (.bool false), .v (.bool false), .v (.bool true), .v (.int .i64 0), .v (.int .i64 0), .v (.bool false), .v (.bool false), .v (.int .i64 0), .arr 0 [], .arr 0 [], .arr 0 [], .arr 0 [], .v (.int .i64 0), .v (.bool false), .v (.bool false), .v (.int .i64 0), .v (.int .i64 0), .v (.int .i64 0), .v (.bool false), .v (.int .i64 0), .arr 0 [], .arr 0 [], .arr 0 [], .arr 0 []], .arr 2 [.v (.int .i64 1), .arr 1 [.v (.int .i64 1)], .arr 1 [.v (.int .u32 3236954112)], .arr 0 [], .arr 0 [], .v (.int .i64 1), .arr 1 [.v (.int .i64 1)], .arr 1 [.v (.int .u32 1073741824)], .arr 0 [], .arr 0 []]]
def r11_3 : AV := .tuple [.agg [.v (.int .i64 1), .fresh 1 1 [.v (.int .i64 1)], .fresh 1 1 [.v (.int .u32 3217031168)], .fresh 1 0 [], .fresh 1 0 []], .v (.int .i64 0)]
theorem p11_3 : k11 a11_3 = some r11_3 := by kernel_rfl
noncomputable def z11 : List AV → Option AV := fun xs => if sameL (sameA 8) xs a11_0 = true then some r11_0 else if sameL (sameA 8) xs a11_1 = true then some r11_1 else if sameL (sameA 8) xs a11_2 = true then some r11_2 else if sameL (sameA 8) xs a11_3 = true then some r11_3 else k11 xs
noncomputable def c76 : CallP := orC 11 z11 c75
theorem k11_ok (args : List AV) (r : AV) (h : k11 args = some r) : PureOK Tryz.prog 11 args r := by
  unfold k11 at h
  exact bodyP_ok mixed c75_ok q4_ok i11 h
theorem c76_ok : CpOK Tryz.prog c76 := orC_ok c75_ok fun args r h => by
  unfold z11 at h
  by_cases h0 : sameL (sameA 8) args a11_0 = true
  · rw [if_pos h0] at h; injection h with h; subst h; rw [sameL_eq (sameA_eq 8) h0]; exact k11_ok _ _ p11_0
  rw [if_neg h0] at h
  by_cases h1 : sameL (sameA 8) args a11_1 = true
  · rw [if_pos h1] at h; injection h with h; subst h; rw [sameL_eq (sameA_eq 8) h1]; exact k11_ok _ _ p11_1
  rw [if_neg h1] at h
  by_cases h2 : sameL (sameA 8) args a11_2 = true
  · rw [if_pos h2] at h; injection h with h; subst h; rw [sameL_eq (sameA_eq 8) h2]; exact k11_ok _ _ p11_2
  rw [if_neg h2] at h
  by_cases h3 : sameL (sameA 8) args a11_3 = true
  · rw [if_pos h3] at h; injection h with h; subst h; rw [sameL_eq (sameA_eq 8) h3]; exact k11_ok _ _ p11_3
  rw [if_neg h3] at h
  exact k11_ok _ _ h
def d68 : List (Nat × List Nat) := [(0, [8, 9]), (0, [0, 1, 11, 12, 13]), (0, [2]), (0, [6, 7]), (0, []), (0, []), (0, [15, 16, 17]), (0, []), (0, [18]), (0, []), (0, [20, 21, 22, 23, 24, 25, 26]), (0, []), (0, [27])]
noncomputable def n68 : FInfo := ⟨bodyOf Tryz.f68, [], []⟩
theorem i68 : finfo Tryz.prog 68 d68 = some n68 := finfo_at Tryz.func68 rfl (by kernel_rfl) (by kernel_rfl)
noncomputable def q5 : CallI := ciE Tryz.prog inl c76 q4 100 68 d68 n68 q4
theorem q5_ok : CiOK Tryz.prog q5 := ciE_ok mixed c76_ok q4_ok i68 q4_ok
def d69 : List (Nat × List Nat) := [(0, [8, 9]), (0, [0, 1, 11, 12, 13]), (0, [2]), (0, [6, 7]), (0, []), (0, []), (0, [15, 16, 17]), (0, []), (0, [18]), (0, []), (0, [20, 21, 22, 23, 24, 25, 26]), (0, []), (0, [27])]
noncomputable def n69 : FInfo := ⟨bodyOf Tryz.f69, [], []⟩
theorem i69 : finfo Tryz.prog 69 d69 = some n69 := finfo_at Tryz.func69 rfl (by kernel_rfl) (by kernel_rfl)
noncomputable def q6 : CallI := ciE Tryz.prog inl c76 q5 100 69 d69 n69 q5
theorem q6_ok : CiOK Tryz.prog q6 := ciE_ok mixed c76_ok q5_ok i69 q5_ok
def d70 : List (Nat × List Nat) := [(0, [8, 9]), (0, [0, 1, 11, 12, 13]), (0, [2]), (0, [6, 7]), (0, []), (0, []), (0, [15, 16, 17]), (0, []), (0, [18]), (0, []), (0, [20, 21, 22, 23, 24, 25, 26]), (0, []), (0, [27])]
noncomputable def n70 : FInfo := ⟨bodyOf Tryz.f70, [], []⟩
theorem i70 : finfo Tryz.prog 70 d70 = some n70 := finfo_at Tryz.func70 rfl (by kernel_rfl) (by kernel_rfl)
noncomputable def q7 : CallI := ciE Tryz.prog inl c76 q6 100 70 d70 n70 q6
theorem q7_ok : CiOK Tryz.prog q7 := ciE_ok mixed c76_ok q6_ok i70 q6_ok
def d34 : List (Nat × List Nat) := [(0, [0, 7]), (0, []), (0, [12, 13]), (0, []), (0, [14]), (0, []), (0, [16, 17]), (0, []), (0, [1, 8, 18, 19, 20, 21, 22, 23, 24]), (0, []), (0, [25]), (0, []), (0, [27, 28]), (0, []), (0, [10, 29, 30, 31, 32, 33, 34, 35, 36, 37, 38, 39]), (0, []), (0, [40, 41, 42, 43, 44, 45, 46, 47, 48, 49, 50, 51, 52]), (0, []), (0, [54]), (0, []), (0, [11, 55, 56]), (0, []), (0, [58]), (0, []), (0, [59, 60, 61, 62, 63, 64]), (0, []), (0, [65, 66, 67, 68, 69, 70]), (0, []), (0, [2, 3, 71, 72, 73, 74, 75, 76]), (0, []), (0, [9, 77])]
noncomputable def n34 : FInfo := ⟨bodyOf Tryz.f34, [.cell 6 28, .tmp 7], [28, 34]⟩
theorem i34 : finfo Tryz.prog 34 d34 = some n34 := finfo_at Tryz.func34 rfl (by kernel_rfl) (by kernel_rfl)
noncomputable def c77 : CallP := orC 34 (fun xs => bodyP Tryz.prog inl c76 q7 100 d34 n34 xs) c76
theorem c77_ok : CpOK Tryz.prog c77 := orC_ok c76_ok fun args r h => bodyP_ok mixed c76_ok q7_ok i34 h
def d15 : List (Nat × List Nat) := [(0, [1, 11]), (0, [15]), (0, [0, 2, 6, 16, 17, 18, 19, 20, 21, 22]), (0, []), (0, [23]), (0, []), (0, [25, 26]), (0, []), (0, [13, 27]), (0, []), (0, [29]), (0, []), (0, [30, 31, 32, 33, 34, 35, 36, 37, 38, 39, 40, 41, 42, 43]), (0, []), (0, [45]), (0, []), (0, [46, 47, 48, 49]), (0, []), (0, []), (0, []), (0, [50]), (0, []), (0, [51, 52]), (0, []), (0, [54, 55]), (0, []), (0, [56, 57, 58, 59]), (0, []), (0, [3, 4, 12, 14, 60, 61, 62, 63, 64, 65, 66, 67, 68, 69, 70, 71])]
noncomputable def n15 : FInfo := ⟨bodyOf Tryz.f15, [.cell 10 28, .tmp 11], [28, 34]⟩
theorem i15 : finfo Tryz.prog 15 d15 = some n15 := finfo_at Tryz.func15 rfl (by kernel_rfl) (by kernel_rfl)
noncomputable def c78 : CallP := orC 15 (fun xs => bodyP Tryz.prog inl c77 q7 100 d15 n15 xs) c77
theorem c78_ok : CpOK Tryz.prog c78 := orC_ok c77_ok fun args r h => bodyP_ok mixed c77_ok q7_ok i15 h
def d23 : List (Nat × List Nat) := [(0, []), (0, []), (0, [0, 3, 4, 5, 6, 7])]
noncomputable def n23 : FInfo := ⟨bodyOf Tryz.f23, [.cell 2 28], [28]⟩
theorem i23 : finfo Tryz.prog 23 d23 = some n23 := finfo_at Tryz.func23 rfl (by kernel_rfl) (by kernel_rfl)
noncomputable def c79 : CallP := orC 23 (fun xs => bodyP Tryz.prog inl c78 q7 100 d23 n23 xs) c78
theorem c79_ok : CpOK Tryz.prog c79 := orC_ok c78_ok fun args r h => bodyP_ok mixed c78_ok q7_ok i23 h
def d24 : List (Nat × List Nat) := [(0, []), (0, []), (0, [0, 3, 4, 5, 6, 7])]
noncomputable def n24 : FInfo := ⟨bodyOf Tryz.f24, [.cell 2 28], [28]⟩
theorem i24 : finfo Tryz.prog 24 d24 = some n24 := finfo_at Tryz.func24 rfl (by kernel_rfl) (by kernel_rfl)
noncomputable def c80 : CallP := orC 24 (fun xs => bodyP Tryz.prog inl c79 q7 100 d24 n24 xs) c79
theorem c80_ok : CpOK Tryz.prog c80 := orC_ok c79_ok fun args r h => bodyP_ok mixed c79_ok q7_ok i24 h
def d9 : List (Nat × List Nat) := [(0, [0]), (0, []), (0, [11, 12, 13, 14, 15, 16, 17, 18, 19, 20]), (0, []), (0, [3, 21, 22, 23, 24, 25, 26, 27, 28, 29, 30]), (0, []), (0, [31, 32, 33, 34, 35, 36, 37, 38, 39, 40]), (0, []), (0, [41, 42, 43, 44, 45, 46, 47, 48, 49, 50]), (0, []), (0, [51, 52, 53, 54, 55, 56, 57, 58, 59, 60]), (0, []), (0, [61, 62, 63, 64, 65, 66, 67, 68, 69, 70, 71, 72, 73, 74, 75, 76, 77, 78, 79, 80, 81]), (0, []), (0, []), (0, []), (0, [1, 2, 4, 5, 6, 7, 8, 9, 10, 83, 84, 85, 86, 87, 88, 89, 90, 91, 92, 93, 94, 95, 96, 97, 98, 99, 100, 101, 102, 103, 104, 105, 106, 107, 108, 109, 110, 111, 112, 113, 114, 115, 116, 117, 118, 119, 120, 121, 122, 123, 124, 125, 126, 127, 128, 129, 130, 131, 132, 133, 134, 135, 136, 137, 138, 139, 140, 141, 142])]
noncomputable def n9 : FInfo := ⟨bodyOf Tryz.f9, [.tmp 0], [4]⟩
theorem i9 : finfo Tryz.prog 9 d9 = some n9 := finfo_at Tryz.func9 rfl (by kernel_rfl) (by kernel_rfl)
noncomputable def c81 : CallP := orC 9 (fun xs => bodyP Tryz.prog inl c80 q7 100 d9 n9 xs) c80
theorem c81_ok : CpOK Tryz.prog c81 := orC_ok c80_ok fun args r h => bodyP_ok mixed c80_ok q7_ok i9 h
theorem aw9 : c81 9 [] = some (.v (.bool true)) := by kernel_rfl
end Aw
theorem awake9 : PureOK Tryz.prog 9 [] (.v (.bool true)) := Aw.c81_ok 9 [] _ Aw.aw9
theorem closed173_23 : PureOK Tryz.prog 173 [.v (.int .i64 23)] (.tuple [.v (.int .i64 2), .v (.int .i64 2), .v (.int .i64 1), .v (.int .i64 1)]) := Aw.k173_ok _ _ Aw.p173_0
theorem closed173_24 : PureOK Tryz.prog 173 [.v (.int .i64 24)] (.tuple [.v (.int .i64 2), .v (.int .i64 2), .v (.int .i64 1), .v (.int .i64 1)]) := Aw.k173_ok _ _ Aw.p173_1
theorem closed173_25 : PureOK Tryz.prog 173 [.v (.int .i64 25)] (.tuple [.v (.int .i64 2), .v (.int .i64 2), .v (.int .i64 1), .v (.int .i64 1)]) := Aw.k173_ok _ _ Aw.p173_2
theorem closed173_28 : PureOK Tryz.prog 173 [.v (.int .i64 28)] (.tuple [.v (.int .i64 2), .v (.int .i64 2), .v (.int .i64 1), .v (.int .i64 1)]) := Aw.k173_ok _ _ Aw.p173_3
theorem closed173_29 : PureOK Tryz.prog 173 [.v (.int .i64 29)] (.tuple [.v (.int .i64 2), .v (.int .i64 2), .v (.int .i64 1), .v (.int .i64 1)]) := Aw.k173_ok _ _ Aw.p173_4
theorem closed173_30 : PureOK Tryz.prog 173 [.v (.int .i64 30)] (.tuple [.v (.int .i64 2), .v (.int .i64 2), .v (.int .i64 1), .v (.int .i64 1)]) := Aw.k173_ok _ _ Aw.p173_5
theorem closed173_31 : PureOK Tryz.prog 173 [.v (.int .i64 31)] (.tuple [.v (.int .i64 2), .v (.int .i64 2), .v (.int .i64 1), .v (.int .i64 1)]) := Aw.k173_ok _ _ Aw.p173_6
theorem closed173_32 : PureOK Tryz.prog 173 [.v (.int .i64 32)] (.tuple [.v (.int .i64 2), .v (.int .i64 2), .v (.int .i64 1), .v (.int .i64 1)]) := Aw.k173_ok _ _ Aw.p173_7
theorem closed173_33 : PureOK Tryz.prog 173 [.v (.int .i64 33)] (.tuple [.v (.int .i64 2), .v (.int .i64 2), .v (.int .i64 1), .v (.int .i64 1)]) := Aw.k173_ok _ _ Aw.p173_8
theorem closed173_34 : PureOK Tryz.prog 173 [.v (.int .i64 34)] (.tuple [.v (.int .i64 2), .v (.int .i64 2), .v (.int .i64 1), .v (.int .i64 1)]) := Aw.k173_ok _ _ Aw.p173_9
theorem closed173_35 : PureOK Tryz.prog 173 [.v (.int .i64 35)] (.tuple [.v (.int .i64 2), .v (.int .i64 2), .v (.int .i64 1), .v (.int .i64 1)]) := Aw.k173_ok _ _ Aw.p173_10
theorem closed173_36 : PureOK Tryz.prog 173 [.v (.int .i64 36)] (.tuple [.v (.int .i64 2), .v (.int .i64 2), .v (.int .i64 1), .v (.int .i64 1)]) := Aw.k173_ok _ _ Aw.p173_11
theorem closed173_37 : PureOK Tryz.prog 173 [.v (.int .i64 37)] (.tuple [.v (.int .i64 2), .v (.int .i64 2), .v (.int .i64 1), .v (.int .i64 1)]) := Aw.k173_ok _ _ Aw.p173_12
theorem closed173_38 : PureOK Tryz.prog 173 [.v (.int .i64 38)] (.tuple [.v (.int .i64 2), .v (.int .i64 2), .v (.int .i64 1), .v (.int .i64 1)]) := Aw.k173_ok _ _ Aw.p173_13
theorem closed173_39 : PureOK Tryz.prog 173 [.v (.int .i64 39)] (.tuple [.v (.int .i64 2), .v (.int .i64 2), .v (.int .i64 1), .v (.int .i64 1)]) := Aw.k173_ok _ _ Aw.p173_14
theorem closed173_40 : PureOK Tryz.prog 173 [.v (.int .i64 40)] (.tuple [.v (.int .i64 2), .v (.int .i64 2), .v (.int .i64 1), .v (.int .i64 1)]) := Aw.k173_ok _ _ Aw.p173_15
theorem closed173_41 : PureOK Tryz.prog 173 [.v (.int .i64 41)] (.tuple [.v (.int .i64 2), .v (.int .i64 2), .v (.int .i64 1), .v (.int .i64 1)]) := Aw.k173_ok _ _ Aw.p173_16
end Go.Av
