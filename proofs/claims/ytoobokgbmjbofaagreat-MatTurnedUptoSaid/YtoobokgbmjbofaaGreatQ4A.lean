/- The documents' examples, reckoned by the interpreter itself. Made by a program of mine. Conditions: none. -/
import Derived.Test.YtoobokgbmjbofaaGreatLt
import Derived.Test.YtoobokgbmjbofaaGreatProg
set_option linter.unusedVariables false
set_option linter.defProp false
set_option maxRecDepth 100000
open Go Go.Proofs
namespace Go.Av
namespace Aw
def bodyOf (f : Func) : Code := f.body.getD .skip
theorem mixed : Tryz.prog.follows .mixedOrders = true := by kernel_rfl
def inl : Cfg := inlC [51, 52, 54, 151, 255]
def inls : Cfg := ⟨inl.inl, fun _ => [(0, [])]⟩
def c0 : CallP := noP
def q0 : CallI := noI
theorem c0_ok : CpOK Tryz.prog c0 := noP_ok
theorem q0_ok : CiOK Tryz.prog q0 := noI_ok
def d63 : List (Nat × List Nat) := [(0, []), (0, [3, 4]), (0, [6, 7, 8, 9]), (0, []), (0, [10, 11, 12]), (0, []), (0, [0, 13, 14, 15, 16]), (0, []), (0, [17, 18, 19, 20, 21, 22]), (0, []), (0, [24, 25]), (0, []), (0, [26, 27, 28]), (0, []), (0, [29, 30, 31]), (0, []), (0, [33, 34]), (0, []), (0, [35, 36, 37]), (0, []), (0, [5, 38])]
noncomputable def n63 : FInfo := ⟨bodyOf Tryz.f63, [.cell 2 91], [91]⟩
theorem i63 : finfo Tryz.prog 63 d63 = some n63 := finfo_at Tryz.func63 rfl (by kernel_rfl) (by kernel_rfl)
noncomputable def c1 : CallP := orC 63 (fun xs => bodyP Tryz.prog inl c0 q0 100 d63 n63 xs) c0
theorem c1_ok : CpOK Tryz.prog c1 := orC_ok c0_ok fun args r h => bodyP_ok mixed c0_ok q0_ok i63 h
def d66 : List (Nat × List Nat) := [(0, [2]), (0, []), (0, [0]), (0, []), (0, []), (0, []), (0, [])]
noncomputable def n66 : FInfo := ⟨bodyOf Tryz.f66, [.tmp 2], [24]⟩
theorem i66 : finfo Tryz.prog 66 d66 = some n66 := finfo_at Tryz.func66 rfl (by kernel_rfl) (by kernel_rfl)
noncomputable def c2 : CallP := orC 66 (fun xs => bodyP Tryz.prog inl c1 q0 100 d66 n66 xs) c1
theorem c2_ok : CpOK Tryz.prog c2 := orC_ok c1_ok fun args r h => bodyP_ok mixed c1_ok q0_ok i66 h
def d127 : List (Nat × List Nat) := [(0, []), (0, []), (0, [3]), (0, []), (0, [5, 6]), (0, []), (0, []), (0, []), (0, [7]), (0, []), (0, [9, 10]), (0, []), (0, [11, 12]), (0, []), (0, [13]), (0, []), (0, [15, 16]), (0, []), (0, [17, 18]), (0, []), (0, [0, 19, 20, 21, 22, 23, 24])]
noncomputable def n127 : FInfo := ⟨bodyOf Tryz.f127, [.tmp 2], [3]⟩
theorem i127 : finfo Tryz.prog 127 d127 = some n127 := finfo_at Tryz.func127 rfl (by kernel_rfl) (by kernel_rfl)
noncomputable def c3 : CallP := orC 127 (fun xs => bodyP Tryz.prog inl c2 q0 100 d127 n127 xs) c2
theorem c3_ok : CpOK Tryz.prog c3 := orC_ok c2_ok fun args r h => bodyP_ok mixed c2_ok q0_ok i127 h
def d65 : List (Nat × List Nat) := [(0, [10]), (0, []), (0, [21, 22]), (0, [3, 4, 11]), (0, [24, 25, 26, 27, 28, 29]), (0, [14, 15, 16, 99, 111]), (0, [30, 31]), (0, []), (0, [33, 34, 35, 36, 37, 38]), (0, []), (0, [39, 40, 41]), (0, []), (0, [43, 44]), (0, []), (0, [45, 46, 47]), (0, []), (0, [48, 49, 50, 51, 52]), (0, []), (0, []), (0, []), (0, [53]), (0, []), (0, [54, 55, 56]), (0, []), (0, [57, 58, 59, 60, 61]), (0, []), (0, [62, 63, 64]), (0, []), (0, [65, 66, 67, 68, 69, 70, 71, 72, 73, 74, 75]), (0, []), (0, [18, 76, 77, 78, 79, 80, 81, 82]), (0, []), (0, [17, 83, 84, 85, 86, 87]), (0, []), (0, [89, 90]), (0, []), (0, [91, 92, 93, 94]), (0, []), (0, [96, 97, 98]), (0, []), (0, []), (0, []), (0, []), (0, []), (0, [100, 101, 102, 103, 104, 105, 106, 107]), (0, []), (0, [109, 110]), (0, []), (0, [112]), (0, []), (0, [113]), (0, []), (0, [114, 115, 116, 117, 118]), (0, []), (0, [120, 121]), (0, []), (0, [2, 12, 122, 123, 124]), (0, []), (0, [125]), (0, []), (0, [127, 128]), (0, []), (0, [129]), (0, []), (0, [131, 132, 133]), (0, []), (0, [13, 19, 134, 135, 136, 137, 138, 139]), (0, []), (0, [140]), (0, []), (0, [142, 143, 144]), (0, []), (0, [0, 1, 20, 145, 146, 147, 148, 149]), (0, []), (0, []), (0, []), (0, []), (0, []), (0, []), (0, []), (0, []), (0, []), (0, []), (0, []), (0, []), (0, []), (0, []), (0, []), (0, []), (0, []), (0, []), (0, []), (0, []), (0, []), (0, []), (0, []), (0, []), (0, []), (0, []), (0, []), (0, []), (0, []), (0, []), (0, []), (0, []), (0, []), (0, []), (0, []), (0, []), (0, []), (0, []), (0, []), (0, []), (0, []), (0, []), (0, []), (0, []), (0, []), (0, []), (0, []), (0, []), (0, []), (0, []), (0, []), (0, []), (0, []), (0, []), (0, []), (0, []), (0, []), (0, []), (0, []), (0, []), (0, []), (0, []), (0, []), (0, []), (0, []), (0, []), (0, []), (0, []), (0, []), (0, []), (0, []), (0, []), (0, []), (0, []), (0, []), (0, []), (0, []), (0, []), (0, []), (0, []), (0, []), (0, []), (0, []), (0, []), (0, []), (0, []), (0, []), (0, []), (0, []), (0, []), (0, []), (0, []), (0, []), (0, []), (0, []), (0, []), (0, []), (0, []), (0, []), (0, []), (0, []), (0, []), (0, []), (0, []), (0, []), (0, []), (0, []), (0, []), (0, []), (0, []), (0, []), (0, []), (0, []), (0, []), (0, []), (0, []), (0, []), (0, []), (0, []), (0, []), (0, []), (0, []), (0, []), (0, []), (0, []), (0, []), (0, []), (0, []), (0, []), (0, []), (0, []), (0, []), (0, []), (0, []), (0, []), (0, []), (0, []), (0, []), (0, []), (0, []), (0, []), (0, []), (0, []), (0, []), (0, []), (0, []), (0, []), (0, []), (0, []), (0, []), (1, [])]
noncomputable def n65 : FInfo := ⟨bodyOf Tryz.f65, [.tmp 10], [24]⟩
theorem i65 : finfo Tryz.prog 65 d65 = some n65 := finfo_at Tryz.func65 rfl (by kernel_rfl) (by kernel_rfl)
noncomputable def c4 : CallP := orC 65 (fun xs => bodyP Tryz.prog inl c3 q0 100 d65 n65 xs) c3
theorem c4_ok : CpOK Tryz.prog c4 := orC_ok c3_ok fun args r h => bodyP_ok mixed c3_ok q0_ok i65 h
def d33 : List (Nat × List Nat) := [(0, [6]), (0, [1, 2]), (0, [14, 15, 16, 17]), (0, [7, 13]), (0, [19, 20, 21, 22, 23, 24, 25, 26, 27, 28, 29, 30, 31, 32, 33, 34, 35, 36, 37, 38, 39]), (0, []), (0, []), (0, []), (0, [41, 42]), (0, []), (0, [43]), (0, []), (0, [45, 46]), (0, []), (0, [47]), (0, []), (0, [49, 50, 51, 52, 53, 54, 55, 56]), (0, []), (0, [57, 58]), (0, []), (0, [60]), (0, []), (0, [61, 62]), (0, []), (0, [63, 64, 65, 66]), (0, []), (0, [68, 69]), (0, []), (0, [70, 71, 72, 73, 74]), (0, []), (10, [75, 76, 77, 78, 79, 80]), (0, []), (0, [81]), (0, []), (0, [83, 84, 85]), (0, []), (0, [86, 87]), (0, []), (0, [88, 89, 90]), (0, []), (0, [91, 92, 93, 94, 95]), (0, []), (8, [96, 97, 98, 99, 100, 101, 102]), (0, []), (0, [9, 104, 105, 106, 107, 108]), (0, []), (0, [109, 110, 111, 112, 113, 114, 115, 116, 117]), (0, []), (0, [119]), (0, []), (0, [120, 121, 122, 123, 124, 125, 126, 127, 128]), (0, []), (0, [130, 131, 132]), (0, []), (0, [133, 134]), (0, []), (0, [136, 137, 138]), (0, []), (0, [139, 140, 141, 142, 143, 144, 145, 146]), (0, []), (0, [0, 8, 10, 11, 12, 147, 148, 149, 150, 151, 152, 153, 154])]
noncomputable def n33 : FInfo := ⟨bodyOf Tryz.f33, [.tmp 6], [24]⟩
theorem i33 : finfo Tryz.prog 33 d33 = some n33 := finfo_at Tryz.func33 rfl (by kernel_rfl) (by kernel_rfl)
noncomputable def c5 : CallP := orC 33 (fun xs => bodyP Tryz.prog inl c4 q0 100 d33 n33 xs) c4
theorem c5_ok : CpOK Tryz.prog c5 := orC_ok c4_ok fun args r h => bodyP_ok mixed c4_ok q0_ok i33 h
def d19 : List (Nat × List Nat) := [(0, [4]), (0, []), (0, [0, 1, 5, 6, 7])]
noncomputable def n19 : FInfo := ⟨bodyOf Tryz.f19, [.tmp 4], [24]⟩
theorem i19 : finfo Tryz.prog 19 d19 = some n19 := finfo_at Tryz.func19 rfl (by kernel_rfl) (by kernel_rfl)
noncomputable def c6 : CallP := orC 19 (fun xs => bodyP Tryz.prog inl c5 q0 100 d19 n19 xs) c5
theorem c6_ok : CpOK Tryz.prog c6 := orC_ok c5_ok fun args r h => bodyP_ok mixed c5_ok q0_ok i19 h
def d34 : List (Nat × List Nat) := [(0, [6]), (0, []), (0, [1, 2, 10, 11, 12, 13]), (0, []), (0, [14, 15, 16, 17, 18]), (0, []), (0, [20, 21, 22, 23, 24, 25, 26, 27, 28, 29, 30, 31, 32, 33, 34, 35, 36, 37, 38, 39, 40, 41, 42, 43, 44, 45, 46, 47, 48, 49, 50, 51, 52, 53]), (0, []), (0, []), (0, []), (0, [55, 56, 57, 58, 59, 60]), (0, []), (0, [61, 62, 63]), (0, []), (0, [0, 7, 8, 9, 64, 65, 66, 67, 68, 69, 70, 71, 72, 73, 74, 75, 76])]
noncomputable def n34 : FInfo := ⟨bodyOf Tryz.f34, [.tmp 6], [24]⟩
theorem i34 : finfo Tryz.prog 34 d34 = some n34 := finfo_at Tryz.func34 rfl (by kernel_rfl) (by kernel_rfl)
noncomputable def c7 : CallP := orC 34 (fun xs => bodyP Tryz.prog inl c6 q0 100 d34 n34 xs) c6
theorem c7_ok : CpOK Tryz.prog c7 := orC_ok c6_ok fun args r h => bodyP_ok mixed c6_ok q0_ok i34 h
def d20 : List (Nat × List Nat) := [(0, [4]), (0, []), (0, [0, 1, 5, 6, 7])]
noncomputable def n20 : FInfo := ⟨bodyOf Tryz.f20, [.tmp 4], [24]⟩
theorem i20 : finfo Tryz.prog 20 d20 = some n20 := finfo_at Tryz.func20 rfl (by kernel_rfl) (by kernel_rfl)
noncomputable def c8 : CallP := orC 20 (fun xs => bodyP Tryz.prog inl c7 q0 100 d20 n20 xs) c7
theorem c8_ok : CpOK Tryz.prog c8 := orC_ok c7_ok fun args r h => bodyP_ok mixed c7_ok q0_ok i20 h
def d9 : List (Nat × List Nat) := [(0, [4]), (0, [0, 1, 11, 12]), (0, []), (0, []), (0, [7, 8, 9, 10]), (0, []), (0, []), (0, []), (0, [14]), (0, []), (12, [6, 15, 16, 17, 18, 19, 20, 21, 22, 23, 24, 25]), (0, []), (0, [26]), (0, []), (0, [5, 27])]
noncomputable def n9 : FInfo := ⟨bodyOf Tryz.f9, [.tmp 4], [24]⟩
theorem i9 : finfo Tryz.prog 9 d9 = some n9 := finfo_at Tryz.func9 rfl (by kernel_rfl) (by kernel_rfl)
noncomputable def c9 : CallP := orC 9 (fun xs => bodyP Tryz.prog inl c8 q0 100 d9 n9 xs) c8
theorem c9_ok : CpOK Tryz.prog c9 := orC_ok c8_ok fun args r h => bodyP_ok mixed c8_ok q0_ok i9 h
def d18 : List (Nat × List Nat) := [(0, [2]), (0, []), (0, [0, 3, 4, 5, 6, 7, 8])]
noncomputable def n18 : FInfo := ⟨bodyOf Tryz.f18, [.tmp 2], [4]⟩
theorem i18 : finfo Tryz.prog 18 d18 = some n18 := finfo_at Tryz.func18 rfl (by kernel_rfl) (by kernel_rfl)
noncomputable def c10 : CallP := orC 18 (fun xs => bodyP Tryz.prog inl c9 q0 100 d18 n18 xs) c9
theorem c10_ok : CpOK Tryz.prog c10 := orC_ok c9_ok fun args r h => bodyP_ok mixed c9_ok q0_ok i18 h
def d46 : List (Nat × List Nat) := [(0, [2]), (0, []), (0, [0, 3, 4])]
noncomputable def n46 : FInfo := ⟨bodyOf Tryz.f46, [.tmp 2], [4]⟩
theorem i46 : finfo Tryz.prog 46 d46 = some n46 := finfo_at Tryz.func46 rfl (by kernel_rfl) (by kernel_rfl)
noncomputable def c11 : CallP := orC 46 (fun xs => bodyP Tryz.prog inl c10 q0 100 d46 n46 xs) c10
theorem c11_ok : CpOK Tryz.prog c11 := orC_ok c10_ok fun args r h => bodyP_ok mixed c10_ok q0_ok i46 h
def d47 : List (Nat × List Nat) := [(0, [2]), (0, []), (0, [0, 3, 4])]
noncomputable def n47 : FInfo := ⟨bodyOf Tryz.f47, [.tmp 2], [4]⟩
theorem i47 : finfo Tryz.prog 47 d47 = some n47 := finfo_at Tryz.func47 rfl (by kernel_rfl) (by kernel_rfl)
noncomputable def c12 : CallP := orC 47 (fun xs => bodyP Tryz.prog inl c11 q0 100 d47 n47 xs) c11
theorem c12_ok : CpOK Tryz.prog c12 := orC_ok c11_ok fun args r h => bodyP_ok mixed c11_ok q0_ok i47 h
def d102 : List (Nat × List Nat) := [(0, [4]), (0, [0, 1, 7, 8]), (0, [6]), (0, [5]), (0, []), (0, []), (0, [10]), (0, []), (0, [11, 12, 13, 14, 15]), (0, []), (0, [17]), (0, []), (0, [18]), (0, []), (0, [])]
noncomputable def n102 : FInfo := ⟨bodyOf Tryz.f102, [.tmp 4], [3]⟩
theorem i102 : finfo Tryz.prog 102 d102 = some n102 := finfo_at Tryz.func102 rfl (by kernel_rfl) (by kernel_rfl)
noncomputable def c13 : CallP := orC 102 (fun xs => bodyP Tryz.prog inl c12 q0 100 d102 n102 xs) c12
theorem c13_ok : CpOK Tryz.prog c13 := orC_ok c12_ok fun args r h => bodyP_ok mixed c12_ok q0_ok i102 h
def d45 : List (Nat × List Nat) := [(0, [4]), (0, []), (0, [0, 1, 5, 6, 7, 8])]
noncomputable def n45 : FInfo := ⟨bodyOf Tryz.f45, [.tmp 4], [4]⟩
theorem i45 : finfo Tryz.prog 45 d45 = some n45 := finfo_at Tryz.func45 rfl (by kernel_rfl) (by kernel_rfl)
noncomputable def c14 : CallP := orC 45 (fun xs => bodyP Tryz.prog inl c13 q0 100 d45 n45 xs) c13
theorem c14_ok : CpOK Tryz.prog c14 := orC_ok c13_ok fun args r h => bodyP_ok mixed c13_ok q0_ok i45 h
def d103 : List (Nat × List Nat) := [(0, [4]), (0, [0, 1, 7, 8]), (0, [6]), (0, [5]), (0, []), (0, []), (0, [10]), (0, []), (0, [11, 12, 13, 14, 15]), (0, []), (0, [17]), (0, []), (0, [18]), (0, []), (0, [])]
noncomputable def n103 : FInfo := ⟨bodyOf Tryz.f103, [.tmp 4], [3]⟩
theorem i103 : finfo Tryz.prog 103 d103 = some n103 := finfo_at Tryz.func103 rfl (by kernel_rfl) (by kernel_rfl)
noncomputable def c15 : CallP := orC 103 (fun xs => bodyP Tryz.prog inl c14 q0 100 d103 n103 xs) c14
theorem c15_ok : CpOK Tryz.prog c15 := orC_ok c14_ok fun args r h => bodyP_ok mixed c14_ok q0_ok i103 h
def d48 : List (Nat × List Nat) := [(0, [4]), (0, []), (0, [0, 1, 5, 6, 7, 8])]
noncomputable def n48 : FInfo := ⟨bodyOf Tryz.f48, [.tmp 4], [4]⟩
theorem i48 : finfo Tryz.prog 48 d48 = some n48 := finfo_at Tryz.func48 rfl (by kernel_rfl) (by kernel_rfl)
noncomputable def c16 : CallP := orC 48 (fun xs => bodyP Tryz.prog inl c15 q0 100 d48 n48 xs) c15
theorem c16_ok : CpOK Tryz.prog c16 := orC_ok c15_ok fun args r h => bodyP_ok mixed c15_ok q0_ok i48 h
def d27 : List (Nat × List Nat) := [(0, [2, 3]), (0, [18, 19, 20]), (0, [7]), (0, []), (0, []), (0, []), (0, [9, 10, 11, 12, 13, 14]), (0, []), (0, []), (0, []), (0, [16]), (0, []), (0, []), (0, []), (0, []), (0, []), (0, [0]), (0, []), (0, []), (0, []), (0, [22, 23]), (0, []), (0, [24, 25, 26]), (0, []), (0, []), (0, []), (0, [6, 28, 29, 30]), (0, []), (0, [31]), (0, []), (0, [4, 32])]
noncomputable def n27 : FInfo := ⟨bodyOf Tryz.f27, [.tmp 2, .tmp 3], [3, 35]⟩
theorem i27 : finfo Tryz.prog 27 d27 = some n27 := finfo_at Tryz.func27 rfl (by kernel_rfl) (by kernel_rfl)
noncomputable def c17 : CallP := orC 27 (fun xs => bodyP Tryz.prog inl c16 q0 100 d27 n27 xs) c16
theorem c17_ok : CpOK Tryz.prog c17 := orC_ok c16_ok fun args r h => bodyP_ok mixed c16_ok q0_ok i27 h
def d78 : List (Nat × List Nat) := [(0, [2]), (0, [3]), (0, [0]), (0, []), (0, [5]), (0, []), (0, []), (0, []), (0, [7]), (0, []), (0, []), (0, []), (0, [9]), (0, []), (0, []), (0, []), (0, [])]
noncomputable def n78 : FInfo := ⟨bodyOf Tryz.f78, [.tmp 2], [3]⟩
theorem i78 : finfo Tryz.prog 78 d78 = some n78 := finfo_at Tryz.func78 rfl (by kernel_rfl) (by kernel_rfl)
noncomputable def c18 : CallP := orC 78 (fun xs => bodyP Tryz.prog inl c17 q0 100 d78 n78 xs) c17
theorem c18_ok : CpOK Tryz.prog c18 := orC_ok c17_ok fun args r h => bodyP_ok mixed c17_ok q0_ok i78 h
def d37 : List (Nat × List Nat) := [(0, [2]), (0, []), (0, [0, 3, 4, 5])]
noncomputable def n37 : FInfo := ⟨bodyOf Tryz.f37, [.tmp 2], [4]⟩
theorem i37 : finfo Tryz.prog 37 d37 = some n37 := finfo_at Tryz.func37 rfl (by kernel_rfl) (by kernel_rfl)
noncomputable def c19 : CallP := orC 37 (fun xs => bodyP Tryz.prog inl c18 q0 100 d37 n37 xs) c18
theorem c19_ok : CpOK Tryz.prog c19 := orC_ok c18_ok fun args r h => bodyP_ok mixed c18_ok q0_ok i37 h
def d23 : List (Nat × List Nat) := [(0, [0, 2]), (0, [23]), (0, [6, 7, 8]), (0, []), (0, []), (0, []), (0, [10, 11, 12, 13, 14, 15]), (0, []), (0, [16]), (0, []), (0, [18]), (0, []), (0, [4, 19, 20, 21]), (0, []), (0, [22]), (0, []), (0, [25]), (0, []), (0, [26, 27, 28]), (0, []), (0, [30]), (0, []), (0, [31, 32, 33]), (0, []), (0, [1, 3, 5, 34, 35, 36, 37, 38, 39, 40, 41, 42, 43, 44, 45, 46, 47, 48, 49, 50]), (0, []), (0, []), (0, []), (0, [])]
noncomputable def n23 : FInfo := ⟨bodyOf Tryz.f23, [.tmp 2], [35]⟩
theorem i23 : finfo Tryz.prog 23 d23 = some n23 := finfo_at Tryz.func23 rfl (by kernel_rfl) (by kernel_rfl)
noncomputable def c20 : CallP := orC 23 (fun xs => bodyP Tryz.prog inl c19 q0 100 d23 n23 xs) c19
theorem c20_ok : CpOK Tryz.prog c20 := orC_ok c19_ok fun args r h => bodyP_ok mixed c19_ok q0_ok i23 h
def d79 : List (Nat × List Nat) := [(0, [2]), (0, []), (0, [0, 3, 4, 5])]
noncomputable def n79 : FInfo := ⟨bodyOf Tryz.f79, [.tmp 2], [27]⟩
theorem i79 : finfo Tryz.prog 79 d79 = some n79 := finfo_at Tryz.func79 rfl (by kernel_rfl) (by kernel_rfl)
noncomputable def c21 : CallP := orC 79 (fun xs => bodyP Tryz.prog inl c20 q0 100 d79 n79 xs) c20
theorem c21_ok : CpOK Tryz.prog c21 := orC_ok c20_ok fun args r h => bodyP_ok mixed c20_ok q0_ok i79 h
def d80 : List (Nat × List Nat) := [(0, [2]), (0, []), (0, [0, 3, 4, 5])]
noncomputable def n80 : FInfo := ⟨bodyOf Tryz.f80, [.tmp 2], [22]⟩
theorem i80 : finfo Tryz.prog 80 d80 = some n80 := finfo_at Tryz.func80 rfl (by kernel_rfl) (by kernel_rfl)
noncomputable def c22 : CallP := orC 80 (fun xs => bodyP Tryz.prog inl c21 q0 100 d80 n80 xs) c21
theorem c22_ok : CpOK Tryz.prog c22 := orC_ok c21_ok fun args r h => bodyP_ok mixed c21_ok q0_ok i80 h
def d81 : List (Nat × List Nat) := [(0, [2]), (0, []), (0, [0, 3, 4, 5])]
noncomputable def n81 : FInfo := ⟨bodyOf Tryz.f81, [.tmp 2], [28]⟩
theorem i81 : finfo Tryz.prog 81 d81 = some n81 := finfo_at Tryz.func81 rfl (by kernel_rfl) (by kernel_rfl)
noncomputable def c23 : CallP := orC 81 (fun xs => bodyP Tryz.prog inl c22 q0 100 d81 n81 xs) c22
theorem c23_ok : CpOK Tryz.prog c23 := orC_ok c22_ok fun args r h => bodyP_ok mixed c22_ok q0_ok i81 h
def d82 : List (Nat × List Nat) := [(0, [2]), (0, []), (0, [0, 3, 4, 5])]
noncomputable def n82 : FInfo := ⟨bodyOf Tryz.f82, [.tmp 2], [29]⟩
theorem i82 : finfo Tryz.prog 82 d82 = some n82 := finfo_at Tryz.func82 rfl (by kernel_rfl) (by kernel_rfl)
noncomputable def c24 : CallP := orC 82 (fun xs => bodyP Tryz.prog inl c23 q0 100 d82 n82 xs) c23
theorem c24_ok : CpOK Tryz.prog c24 := orC_ok c23_ok fun args r h => bodyP_ok mixed c23_ok q0_ok i82 h
def d38 : List (Nat × List Nat) := [(0, [0]), (0, []), (15, [1, 3, 4, 5, 6, 7, 8, 9, 10, 11, 12, 13, 14, 15, 16, 17])]
noncomputable def n38 : FInfo := ⟨bodyOf Tryz.f38, [.cell 2 31], [31]⟩
theorem i38 : finfo Tryz.prog 38 d38 = some n38 := finfo_at Tryz.func38 rfl (by kernel_rfl) (by kernel_rfl)
noncomputable def c25 : CallP := orC 38 (fun xs => bodyP Tryz.prog inl c24 q0 100 d38 n38 xs) c24
theorem c25_ok : CpOK Tryz.prog c25 := orC_ok c24_ok fun args r h => bodyP_ok mixed c24_ok q0_ok i38 h
def d133 : List (Nat × List Nat) := [(0, [2]), (0, []), (0, [0, 3, 4])]
noncomputable def n133 : FInfo := ⟨bodyOf Tryz.f133, [.tmp 2], [24]⟩
theorem i133 : finfo Tryz.prog 133 d133 = some n133 := finfo_at Tryz.func133 rfl (by kernel_rfl) (by kernel_rfl)
noncomputable def c26 : CallP := orC 133 (fun xs => bodyP Tryz.prog inl c25 q0 100 d133 n133 xs) c25
theorem c26_ok : CpOK Tryz.prog c26 := orC_ok c25_ok fun args r h => bodyP_ok mixed c25_ok q0_ok i133 h
def d83 : List (Nat × List Nat) := [(0, [2]), (0, []), (0, [0, 3, 4, 5])]
noncomputable def n83 : FInfo := ⟨bodyOf Tryz.f83, [.tmp 2], [4]⟩
theorem i83 : finfo Tryz.prog 83 d83 = some n83 := finfo_at Tryz.func83 rfl (by kernel_rfl) (by kernel_rfl)
noncomputable def c27 : CallP := orC 83 (fun xs => bodyP Tryz.prog inl c26 q0 100 d83 n83 xs) c26
theorem c27_ok : CpOK Tryz.prog c27 := orC_ok c26_ok fun args r h => bodyP_ok mixed c26_ok q0_ok i83 h
def d39 : List (Nat × List Nat) := [(0, [2]), (0, []), (0, [3]), (0, []), (0, []), (0, []), (0, [0, 5])]
noncomputable def n39 : FInfo := ⟨bodyOf Tryz.f39, [.tmp 2], [24]⟩
theorem i39 : finfo Tryz.prog 39 d39 = some n39 := finfo_at Tryz.func39 rfl (by kernel_rfl) (by kernel_rfl)
noncomputable def c28 : CallP := orC 39 (fun xs => bodyP Tryz.prog inl c27 q0 100 d39 n39 xs) c27
theorem c28_ok : CpOK Tryz.prog c28 := orC_ok c27_ok fun args r h => bodyP_ok mixed c27_ok q0_ok i39 h
def d24 : List (Nat × List Nat) := [(0, [0]), (0, [9, 10, 11]), (0, [1, 6, 7]), (0, []), (0, [8]), (0, []), (0, []), (0, []), (0, [13, 14, 15]), (0, []), (6, [4, 5, 16, 17, 18, 19, 20, 21]), (0, []), (0, [22]), (0, []), (0, [3, 23])]
noncomputable def n24 : FInfo := ⟨bodyOf Tryz.f24, [.cell 2 31], [31]⟩
theorem i24 : finfo Tryz.prog 24 d24 = some n24 := finfo_at Tryz.func24 rfl (by kernel_rfl) (by kernel_rfl)
noncomputable def c29 : CallP := orC 24 (fun xs => bodyP Tryz.prog inl c28 q0 100 d24 n24 xs) c28
theorem c29_ok : CpOK Tryz.prog c29 := orC_ok c28_ok fun args r h => bodyP_ok mixed c28_ok q0_ok i24 h
def d255 : List (Nat × List Nat) := [(0, [4]), (0, []), (0, [5]), (0, []), (0, [7]), (0, []), (0, [8, 9, 10, 11, 12, 13, 14]), (0, []), (0, [15]), (0, []), (0, [17, 18, 19, 20, 21, 22, 23, 24, 25]), (0, []), (0, [0, 1, 26, 6000004])]
noncomputable def n255 : FInfo := ⟨bodyOf Tryz.f255, [.tmp 4], [169]⟩
theorem i255 : finfo Tryz.prog 255 d255 = some n255 := finfo_at Tryz.func255 rfl (by kernel_rfl) (by kernel_rfl)
noncomputable def q1 : CallI := ciE Tryz.prog inl c29 q0 100 255 d255 n255 q0
theorem q1_ok : CiOK Tryz.prog q1 := ciE_ok mixed c29_ok q0_ok i255 q0_ok
def d239 : List (Nat × List Nat) := [(0, [2]), (0, [9, 10, 11]), (0, []), (0, []), (0, []), (0, [25, 26, 27]), (0, []), (0, []), (0, [13, 14]), (0, []), (0, [5, 15, 16, 17, 18]), (0, []), (0, [19]), (0, []), (0, [21]), (0, []), (0, [22]), (0, []), (0, [3, 23, 24, 3000000006]), (0, []), (0, [0]), (0, []), (0, []), (0, []), (0, [29, 30]), (0, []), (0, [8, 31, 32, 33]), (0, []), (0, [34]), (0, []), (0, [6, 35])]
noncomputable def n239 : FInfo := ⟨bodyOf Tryz.f239, [.tmp 2], [169]⟩
theorem i239 : finfo Tryz.prog 239 d239 = some n239 := finfo_at Tryz.func239 rfl (by kernel_rfl) (by kernel_rfl)
noncomputable def c30 : CallP := orC 239 (fun xs => bodyP Tryz.prog inl c29 q1 100 d239 n239 xs) c29
theorem c30_ok : CpOK Tryz.prog c30 := orC_ok c29_ok fun args r h => bodyP_ok mixed c29_ok q1_ok i239 h
def d240 : List (Nat × List Nat) := [(0, [0]), (0, []), (0, [1, 2, 3, 4, 5, 6, 7, 8, 9, 10, 11, 12, 13, 14, 15, 16, 17, 18, 19, 20, 21, 22, 23, 24, 25, 26, 27, 28, 29, 30, 31, 32, 33, 34, 35, 36, 37, 38, 39, 40, 41, 42, 43, 44, 45])]
noncomputable def n240 : FInfo := ⟨bodyOf Tryz.f240, [.tmp 0], [169]⟩
theorem i240 : finfo Tryz.prog 240 d240 = some n240 := finfo_at Tryz.func240 rfl (by kernel_rfl) (by kernel_rfl)
noncomputable def c31 : CallP := orC 240 (fun xs => bodyP Tryz.prog inl c30 q1 100 d240 n240 xs) c30
theorem c31_ok : CpOK Tryz.prog c31 := orC_ok c30_ok fun args r h => bodyP_ok mixed c30_ok q1_ok i240 h
def d241 : List (Nat × List Nat) := [(0, [0]), (0, []), (0, [1, 2, 3, 4, 5, 6, 7, 8, 9, 10, 11, 12, 13, 14, 15, 16, 17, 18, 19, 20, 21])]
noncomputable def n241 : FInfo := ⟨bodyOf Tryz.f241, [.tmp 0], [169]⟩
theorem i241 : finfo Tryz.prog 241 d241 = some n241 := finfo_at Tryz.func241 rfl (by kernel_rfl) (by kernel_rfl)
noncomputable def c32 : CallP := orC 241 (fun xs => bodyP Tryz.prog inl c31 q1 100 d241 n241 xs) c31
theorem c32_ok : CpOK Tryz.prog c32 := orC_ok c31_ok fun args r h => bodyP_ok mixed c31_ok q1_ok i241 h
def d242 : List (Nat × List Nat) := [(0, [0]), (0, []), (0, [1, 2, 3, 4, 5, 6, 7, 8, 9, 10, 11, 12, 13, 14, 15, 16, 17])]
noncomputable def n242 : FInfo := ⟨bodyOf Tryz.f242, [.tmp 0], [169]⟩
theorem i242 : finfo Tryz.prog 242 d242 = some n242 := finfo_at Tryz.func242 rfl (by kernel_rfl) (by kernel_rfl)
noncomputable def c33 : CallP := orC 242 (fun xs => bodyP Tryz.prog inl c32 q1 100 d242 n242 xs) c32
theorem c33_ok : CpOK Tryz.prog c33 := orC_ok c32_ok fun args r h => bodyP_ok mixed c32_ok q1_ok i242 h
def d206 : List (Nat × List Nat) := [(0, [0]), (0, []), (0, [1, 2, 3, 4, 5])]
noncomputable def n206 : FInfo := ⟨bodyOf Tryz.f206, [.tmp 0], [169]⟩
theorem i206 : finfo Tryz.prog 206 d206 = some n206 := finfo_at Tryz.func206 rfl (by kernel_rfl) (by kernel_rfl)
noncomputable def c34 : CallP := orC 206 (fun xs => bodyP Tryz.prog inl c33 q1 100 d206 n206 xs) c33
theorem c34_ok : CpOK Tryz.prog c34 := orC_ok c33_ok fun args r h => bodyP_ok mixed c33_ok q1_ok i206 h
def d134 : List (Nat × List Nat) := [(0, []), (0, []), (0, [3, 4, 5, 6, 7]), (0, []), (0, [9]), (0, []), (0, [0, 10, 11, 12, 13, 14])]
noncomputable def n134 : FInfo := ⟨bodyOf Tryz.f134, [.cell 2 136], [136]⟩
theorem i134 : finfo Tryz.prog 134 d134 = some n134 := finfo_at Tryz.func134 rfl (by kernel_rfl) (by kernel_rfl)
noncomputable def c35 : CallP := orC 134 (fun xs => bodyP Tryz.prog inl c34 q1 100 d134 n134 xs) c34
theorem c35_ok : CpOK Tryz.prog c35 := orC_ok c34_ok fun args r h => bodyP_ok mixed c34_ok q1_ok i134 h
def d84 : List (Nat × List Nat) := [(0, [2, 3, 4, 5]), (0, []), (0, [0, 7, 8]), (0, []), (12, [6, 9, 10, 11, 12, 13, 14, 15, 16])]
noncomputable def n84 : FInfo := ⟨bodyOf Tryz.f84, [.tmp 2, .tmp 3, .tmp 4, .tmp 5], [3, 3, 3, 3]⟩
theorem i84 : finfo Tryz.prog 84 d84 = some n84 := finfo_at Tryz.func84 rfl (by kernel_rfl) (by kernel_rfl)
noncomputable def k84 : List AV → Option AV := fun xs => bodyP Tryz.prog inl c35 q1 100 d84 n84 xs
def a84_0 : List AV := [.v (.int .i64 73)]
def r84_0 : AV := .tuple [.v (.int .i64 2), .v (.int .i64 2), .v (.int .i64 1), .v (.int .i64 1)]
theorem p84_0 : k84 a84_0 = some r84_0 := by kernel_rfl
def a84_1 : List AV := [.v (.int .i64 74)]
def r84_1 : AV := .tuple [.v (.int .i64 2), .v (.int .i64 3), .v (.int .i64 1), .v (.int .i64 1)]
theorem p84_1 : k84 a84_1 = some r84_1 := by kernel_rfl
noncomputable def z84 : List AV → Option AV := fun xs => if sameL (sameA 8) xs a84_0 = true then some r84_0 else if sameL (sameA 8) xs a84_1 = true then some r84_1 else k84 xs
noncomputable def c36 : CallP := orC 84 z84 c35
theorem k84_ok (args : List AV) (r : AV) (h : k84 args = some r) : PureOK Tryz.prog 84 args r := by
  unfold k84 at h
  exact bodyP_ok mixed c35_ok q1_ok i84 h
theorem c36_ok : CpOK Tryz.prog c36 := orC_ok c35_ok fun args r h => by
  unfold z84 at h
  by_cases h0 : sameL (sameA 8) args a84_0 = true
  · rw [if_pos h0] at h; injection h with h; subst h; rw [sameL_eq (sameA_eq 8) h0]; exact k84_ok _ _ p84_0
  rw [if_neg h0] at h
  by_cases h1 : sameL (sameA 8) args a84_1 = true
  · rw [if_pos h1] at h; injection h with h; subst h; rw [sameL_eq (sameA_eq 8) h1]; exact k84_ok _ _ p84_1
  rw [if_neg h1] at h
  exact k84_ok _ _ h
def d101 : List (Nat × List Nat) := [(0, [0]), (0, []), (0, [5, 6, 7, 8]), (0, []), (0, [10, 11, 12, 13, 14]), (0, []), (0, [1, 2, 15])]
noncomputable def n101 : FInfo := ⟨bodyOf Tryz.f101, [.cell 4 56], [56]⟩
theorem i101 : finfo Tryz.prog 101 d101 = some n101 := finfo_at Tryz.func101 rfl (by kernel_rfl) (by kernel_rfl)
noncomputable def c37 : CallP := orC 101 (fun xs => bodyP Tryz.prog inl c36 q1 100 d101 n101 xs) c36
theorem c37_ok : CpOK Tryz.prog c37 := orC_ok c36_ok fun args r h => bodyP_ok mixed c36_ok q1_ok i101 h
def d85 : List (Nat × List Nat) := [(0, [0, 4]), (0, []), (0, [1, 2, 5, 6, 7, 8, 9])]
noncomputable def n85 : FInfo := ⟨bodyOf Tryz.f85, [.tmp 4], [4]⟩
theorem i85 : finfo Tryz.prog 85 d85 = some n85 := finfo_at Tryz.func85 rfl (by kernel_rfl) (by kernel_rfl)
noncomputable def c38 : CallP := orC 85 (fun xs => bodyP Tryz.prog inl c37 q1 100 d85 n85 xs) c37
theorem c38_ok : CpOK Tryz.prog c38 := orC_ok c37_ok fun args r h => bodyP_ok mixed c37_ok q1_ok i85 h
def d40 : List (Nat × List Nat) := [(0, [0, 2]), (0, [1, 49, 50]), (0, [8, 9, 10, 11, 12, 13, 14, 15]), (0, []), (0, [4, 5, 6, 16, 17, 18, 19, 20, 21, 22, 23, 24, 25, 26, 27, 28, 29, 30, 31, 32, 33, 34, 35, 36, 37, 38, 39, 40, 41, 42, 43, 44, 45, 46, 47]), (0, []), (0, []), (0, []), (0, [3]), (0, []), (0, []), (0, []), (0, [52]), (0, []), (0, [7, 53, 54, 55]), (0, []), (0, []), (0, []), (0, [57]), (0, []), (0, [])]
noncomputable def n40 : FInfo := ⟨bodyOf Tryz.f40, [.tmp 2], [4]⟩
theorem i40 : finfo Tryz.prog 40 d40 = some n40 := finfo_at Tryz.func40 rfl (by kernel_rfl) (by kernel_rfl)
noncomputable def c39 : CallP := orC 40 (fun xs => bodyP Tryz.prog inl c38 q1 100 d40 n40 xs) c38
theorem c39_ok : CpOK Tryz.prog c39 := orC_ok c38_ok fun args r h => bodyP_ok mixed c38_ok q1_ok i40 h
def d135 : List (Nat × List Nat) := [(0, [2]), (0, [3, 4, 13, 18, 31, 36, 45, 55]), (0, [0]), (0, []), (0, [5]), (0, []), (0, [6]), (0, []), (0, [7]), (1, []), (0, [8]), (0, []), (0, [9]), (0, []), (0, [10]), (0, []), (0, [11]), (0, []), (0, [12]), (0, []), (0, []), (0, []), (0, [14]), (0, []), (0, [15]), (0, []), (0, [16]), (1, []), (0, [17]), (0, []), (0, []), (0, []), (0, [19]), (0, []), (0, [20]), (0, []), (0, [21]), (1, []), (0, [22]), (0, []), (0, [23]), (0, []), (0, [24]), (0, []), (0, [25]), (0, []), (0, [26]), (0, []), (0, [27]), (0, []), (0, [28]), (0, []), (0, [29]), (0, []), (0, [30]), (0, []), (0, []), (0, []), (0, [32]), (0, []), (0, [33]), (0, []), (0, []), (1, []), (0, [35]), (0, []), (0, []), (0, []), (0, [37]), (0, []), (0, [38]), (0, []), (0, [39]), (1, []), (0, [40]), (0, []), (0, [41]), (0, []), (0, [42]), (0, []), (0, [43]), (0, []), (0, [44]), (0, []), (0, []), (0, []), (0, [46]), (0, []), (0, [47]), (0, []), (0, [48]), (1, []), (0, [49]), (0, []), (0, [50]), (0, []), (0, [51]), (0, []), (0, [52]), (0, []), (0, [53]), (0, []), (0, [54]), (0, []), (0, []), (0, []), (0, [56]), (0, []), (0, [57]), (0, []), (0, []), (1, []), (0, [59]), (0, []), (0, []), (0, []), (0, [61]), (0, []), (0, []), (0, []), (0, [])]
noncomputable def n135 : FInfo := ⟨bodyOf Tryz.f135, [.tmp 2], [9]⟩
theorem i135 : finfo Tryz.prog 135 d135 = some n135 := finfo_at Tryz.func135 rfl (by kernel_rfl) (by kernel_rfl)
noncomputable def c40 : CallP := orC 135 (fun xs => bodyP Tryz.prog inl c39 q1 100 d135 n135 xs) c39
theorem c40_ok : CpOK Tryz.prog c40 := orC_ok c39_ok fun args r h => bodyP_ok mixed c39_ok q1_ok i135 h
def d136 : List (Nat × List Nat) := [(0, [0, 6]), (0, [1, 3, 12]), (0, [8, 9, 10, 11]), (0, []), (0, [2]), (0, []), (0, [14]), (0, []), (0, [15, 16, 17, 18, 19, 20]), (0, []), (0, [22]), (0, []), (0, [23, 24]), (0, []), (0, [26]), (0, []), (0, [27, 28]), (0, []), (0, [30]), (0, []), (0, [31, 32]), (0, []), (0, [34]), (0, []), (0, [35, 36, 37, 38, 39]), (0, []), (0, [41]), (0, []), (0, [42, 43, 44, 45, 46, 47, 48]), (0, []), (0, [7, 49, 50, 51])]
noncomputable def n136 : FInfo := ⟨bodyOf Tryz.f136, [.tmp 6], [4]⟩
theorem i136 : finfo Tryz.prog 136 d136 = some n136 := finfo_at Tryz.func136 rfl (by kernel_rfl) (by kernel_rfl)
noncomputable def c41 : CallP := orC 136 (fun xs => bodyP Tryz.prog inl c40 q1 100 d136 n136 xs) c40
theorem c41_ok : CpOK Tryz.prog c41 := orC_ok c40_ok fun args r h => bodyP_ok mixed c40_ok q1_ok i136 h
def d86 : List (Nat × List Nat) := [(0, [0, 2]), (0, [3, 10, 11]), (0, [5, 6, 7]), (0, []), (0, [8, 9]), (0, []), (0, []), (0, []), (0, [13]), (0, []), (24, [4, 14, 15, 16, 17, 18, 19, 20, 21, 22, 23, 24, 25, 26, 27, 28, 29, 30, 31, 32, 33, 34, 35, 36]), (0, []), (0, []), (0, []), (0, [38]), (0, []), (0, [1, 39, 40, 41, 42, 43, 44, 45, 46, 47, 48, 49, 50, 51, 52, 53])]
noncomputable def n86 : FInfo := ⟨bodyOf Tryz.f86, [.tmp 2], [4]⟩
theorem i86 : finfo Tryz.prog 86 d86 = some n86 := finfo_at Tryz.func86 rfl (by kernel_rfl) (by kernel_rfl)
noncomputable def c42 : CallP := orC 86 (fun xs => bodyP Tryz.prog inl c41 q1 100 d86 n86 xs) c41
theorem c42_ok : CpOK Tryz.prog c42 := orC_ok c41_ok fun args r h => bodyP_ok mixed c41_ok q1_ok i86 h
def d89 : List (Nat × List Nat) := [(0, [0, 4]), (0, []), (0, [1, 2, 5, 6, 7, 8])]
noncomputable def n89 : FInfo := ⟨bodyOf Tryz.f89, [.tmp 4], [27]⟩
theorem i89 : finfo Tryz.prog 89 d89 = some n89 := finfo_at Tryz.func89 rfl (by kernel_rfl) (by kernel_rfl)
noncomputable def c43 : CallP := orC 89 (fun xs => bodyP Tryz.prog inl c42 q1 100 d89 n89 xs) c42
theorem c43_ok : CpOK Tryz.prog c43 := orC_ok c42_ok fun args r h => bodyP_ok mixed c42_ok q1_ok i89 h
def d137 : List (Nat × List Nat) := [(0, [0, 2]), (0, []), (0, [1, 3, 4, 5])]
noncomputable def n137 : FInfo := ⟨bodyOf Tryz.f137, [.tmp 2], [3]⟩
theorem i137 : finfo Tryz.prog 137 d137 = some n137 := finfo_at Tryz.func137 rfl (by kernel_rfl) (by kernel_rfl)
noncomputable def c44 : CallP := orC 137 (fun xs => bodyP Tryz.prog inl c43 q1 100 d137 n137 xs) c43
theorem c44_ok : CpOK Tryz.prog c44 := orC_ok c43_ok fun args r h => bodyP_ok mixed c43_ok q1_ok i137 h
def d87 : List (Nat × List Nat) := [(0, [0, 2]), (0, [1, 3, 4, 17, 58, 99, 131, 164]), (5, [12, 13, 14, 15]), (0, []), (0, [16]), (0, []), (0, [19]), (0, []), (0, [20, 21, 22, 23, 24, 25, 26, 27]), (0, []), (0, [29]), (0, []), (0, [30, 31, 32, 33]), (0, []), (0, [35]), (0, []), (0, [36, 37, 38, 39, 40, 41, 42, 43, 44, 45, 46, 47, 48, 49]), (0, []), (0, [5, 50, 51, 52, 53, 54, 55, 56, 57]), (0, []), (0, [59]), (0, []), (0, [60]), (0, []), (0, [61, 62, 63, 64, 65, 66, 67, 68]), (0, []), (0, [70]), (0, []), (0, [71, 72, 73, 74, 75, 76, 77]), (0, []), (0, [6, 7, 78, 79, 80, 81, 82, 83, 84, 85, 86, 87, 88, 89, 90, 91, 92, 93, 94, 95, 96, 97, 98]), (0, []), (0, [100]), (0, []), (0, [101]), (0, []), (0, [102]), (0, []), (0, [103]), (0, []), (0, [104]), (0, []), (0, [105]), (0, []), (0, [106]), (0, []), (0, [107]), (0, []), (0, [108]), (0, []), (0, [8, 109, 110, 111, 112, 113, 114, 115]), (0, []), (0, [9, 116, 117]), (0, []), (0, [119]), (0, []), (0, [120, 121, 122, 123, 124, 125, 126, 127, 128, 129, 130]), (0, []), (0, [132]), (0, []), (0, [133]), (0, []), (0, [134]), (0, []), (0, [135]), (0, []), (0, [10, 136, 137, 138, 139, 140, 141, 142]), (0, []), (0, [11, 143, 144]), (0, []), (0, [146]), (0, []), (0, [147, 148, 149, 150, 151, 152, 153, 154, 155, 156, 157, 158, 159, 160, 161, 162, 163]), (0, []), (0, [165]), (0, []), (0, [166]), (0, []), (0, [167, 168, 169, 170, 171, 172, 173, 174]), (0, []), (0, []), (0, []), (0, []), (0, []), (0, []), (0, []), (0, []), (0, []), (0, []), (0, []), (0, []), (0, []), (0, []), (0, []), (0, []), (0, []), (0, []), (0, []), (0, []), (0, []), (0, []), (0, []), (0, []), (0, []), (0, []), (0, []), (0, []), (0, []), (0, []), (0, []), (0, []), (0, []), (0, []), (0, []), (0, []), (0, []), (0, []), (1, []), (0, []), (0, []), (0, []), (0, []), (0, []), (0, []), (0, []), (0, []), (0, []), (0, []), (0, []), (0, []), (0, []), (0, []), (0, []), (0, []), (0, []), (0, []), (0, []), (0, []), (0, []), (0, []), (0, []), (0, []), (0, []), (0, []), (0, []), (0, []), (0, []), (0, []), (0, []), (0, []), (0, []), (0, []), (0, []), (0, []), (0, []), (0, []), (0, []), (0, []), (0, []), (0, []), (0, []), (0, []), (0, []), (0, []), (0, []), (0, []), (0, []), (0, []), (0, []), (0, []), (0, []), (0, []), (0, []), (0, []), (0, []), (0, []), (0, []), (0, []), (0, []), (0, []), (0, []), (0, []), (0, []), (0, []), (0, []), (0, []), (0, []), (0, []), (0, []), (0, []), (0, []), (0, []), (0, []), (0, []), (0, []), (0, []), (0, []), (0, []), (0, []), (1, []), (0, []), (0, []), (0, []), (0, []), (0, []), (0, []), (0, []), (0, []), (0, []), (0, []), (0, []), (0, []), (0, []), (0, []), (0, []), (0, []), (0, []), (0, []), (0, []), (0, []), (0, []), (0, []), (0, []), (0, []), (0, []), (0, []), (0, []), (0, []), (0, []), (0, []), (0, []), (0, []), (0, []), (0, []), (0, []), (0, []), (0, []), (0, []), (0, []), (0, []), (0, []), (0, []), (0, []), (0, []), (0, []), (0, []), (0, []), (0, []), (0, []), (0, []), (0, []), (0, []), (0, []), (0, []), (0, []), (0, []), (0, []), (0, []), (0, []), (0, []), (0, []), (0, []), (0, []), (1, []), (0, []), (0, []), (0, []), (0, []), (0, []), (0, []), (0, []), (0, []), (0, []), (0, []), (0, []), (0, []), (0, []), (0, []), (0, []), (0, []), (0, []), (0, []), (0, []), (0, []), (0, []), (0, []), (0, []), (0, []), (0, []), (0, []), (0, []), (0, []), (0, []), (0, []), (0, []), (0, []), (0, []), (0, []), (0, []), (0, []), (0, []), (0, []), (0, []), (0, []), (0, []), (0, []), (0, []), (0, []), (0, []), (0, []), (0, []), (0, []), (0, []), (0, []), (0, []), (0, []), (0, []), (0, []), (0, []), (0, []), (0, []), (0, []), (0, []), (0, []), (0, []), (0, []), (0, []), (0, []), (0, []), (1, [])]
noncomputable def n87 : FInfo := ⟨bodyOf Tryz.f87, [.tmp 2], [4]⟩
theorem i87 : finfo Tryz.prog 87 d87 = some n87 := finfo_at Tryz.func87 rfl (by kernel_rfl) (by kernel_rfl)
noncomputable def c45 : CallP := orC 87 (fun xs => bodyP Tryz.prog inl c44 q1 100 d87 n87 xs) c44
theorem c45_ok : CpOK Tryz.prog c45 := orC_ok c44_ok fun args r h => bodyP_ok mixed c44_ok q1_ok i87 h
def d143 : List (Nat × List Nat) := [(0, [0, 2]), (0, [8, 13]), (0, []), (0, [1, 4, 6]), (0, [7]), (0, []), (0, []), (0, []), (0, [10]), (0, []), (0, []), (0, []), (0, [12]), (0, []), (0, []), (0, []), (0, [14]), (0, []), (0, [15]), (0, []), (0, [16]), (0, []), (0, [17]), (0, []), (0, [18]), (0, []), (0, [19]), (1, []), (0, [20]), (0, []), (0, [21]), (0, []), (0, []), (0, []), (0, [3, 22]), (0, []), (0, [23, 24]), (0, []), (0, [26, 27]), (0, []), (0, [28, 29]), (0, []), (0, [31, 32, 33, 34, 35, 36]), (0, []), (0, [5, 37])]
noncomputable def n143 : FInfo := ⟨bodyOf Tryz.f143, [.tmp 2], [51]⟩
theorem i143 : finfo Tryz.prog 143 d143 = some n143 := finfo_at Tryz.func143 rfl (by kernel_rfl) (by kernel_rfl)
noncomputable def c46 : CallP := orC 143 (fun xs => bodyP Tryz.prog inl c45 q1 100 d143 n143 xs) c45
theorem c46_ok : CpOK Tryz.prog c46 := orC_ok c45_ok fun args r h => bodyP_ok mixed c45_ok q1_ok i143 h
def d104 : List (Nat × List Nat) := [(0, [4]), (0, [0, 1, 12, 13]), (0, [6, 7, 8, 9]), (0, []), (0, []), (0, []), (0, [11]), (0, []), (0, []), (0, []), (0, [15]), (0, []), (9, [5, 16, 17, 18, 19, 20, 21, 22, 23]), (0, []), (0, []), (0, []), (0, [25]), (0, []), (0, [])]
noncomputable def n104 : FInfo := ⟨bodyOf Tryz.f104, [.tmp 4], [4]⟩
theorem i104 : finfo Tryz.prog 104 d104 = some n104 := finfo_at Tryz.func104 rfl (by kernel_rfl) (by kernel_rfl)
noncomputable def c47 : CallP := orC 104 (fun xs => bodyP Tryz.prog inl c46 q1 100 d104 n104 xs) c46
theorem c47_ok : CpOK Tryz.prog c47 := orC_ok c46_ok fun args r h => bodyP_ok mixed c46_ok q1_ok i104 h
def d207 : List (Nat × List Nat) := [(0, [4]), (0, [0, 1, 7, 8]), (0, [6]), (0, [5]), (0, []), (0, []), (0, [10]), (0, []), (0, [11, 12, 13, 14, 15]), (0, []), (0, [17]), (0, []), (0, [18]), (0, []), (0, [])]
noncomputable def n207 : FInfo := ⟨bodyOf Tryz.f207, [.tmp 4], [3]⟩
theorem i207 : finfo Tryz.prog 207 d207 = some n207 := finfo_at Tryz.func207 rfl (by kernel_rfl) (by kernel_rfl)
noncomputable def c48 : CallP := orC 207 (fun xs => bodyP Tryz.prog inl c47 q1 100 d207 n207 xs) c47
theorem c48_ok : CpOK Tryz.prog c48 := orC_ok c47_ok fun args r h => bodyP_ok mixed c47_ok q1_ok i207 h
def d144 : List (Nat × List Nat) := [(0, [4]), (0, []), (0, [0, 1, 5, 6, 7, 8])]
noncomputable def n144 : FInfo := ⟨bodyOf Tryz.f144, [.tmp 4], [4]⟩
theorem i144 : finfo Tryz.prog 144 d144 = some n144 := finfo_at Tryz.func144 rfl (by kernel_rfl) (by kernel_rfl)
noncomputable def c49 : CallP := orC 144 (fun xs => bodyP Tryz.prog inl c48 q1 100 d144 n144 xs) c48
theorem c49_ok : CpOK Tryz.prog c49 := orC_ok c48_ok fun args r h => bodyP_ok mixed c48_ok q1_ok i144 h
def d88 : List (Nat × List Nat) := [(0, [0, 2]), (0, [1, 3]), (0, [4, 5]), (0, []), (0, [7, 8]), (0, []), (0, []), (0, []), (0, [10, 11]), (0, []), (0, []), (0, []), (0, [13, 14, 15, 16, 17, 18, 19]), (0, []), (0, []), (0, []), (0, [])]
noncomputable def n88 : FInfo := ⟨bodyOf Tryz.f88, [.tmp 2], [35]⟩
theorem i88 : finfo Tryz.prog 88 d88 = some n88 := finfo_at Tryz.func88 rfl (by kernel_rfl) (by kernel_rfl)
noncomputable def c50 : CallP := orC 88 (fun xs => bodyP Tryz.prog inl c49 q1 100 d88 n88 xs) c49
theorem c50_ok : CpOK Tryz.prog c50 := orC_ok c49_ok fun args r h => bodyP_ok mixed c49_ok q1_ok i88 h
def d41 : List (Nat × List Nat) := [(0, [0, 2]), (0, [8, 9, 10]), (0, [7]), (0, []), (0, []), (0, []), (0, [12, 13, 14]), (0, []), (0, [4, 5, 15, 16, 17, 18, 19, 20]), (0, []), (0, [3, 6, 21, 22, 23, 24, 25, 26]), (0, []), (0, []), (0, []), (0, [28]), (0, []), (0, [30, 31, 32]), (0, []), (0, []), (0, []), (0, [34, 35, 36]), (0, []), (0, []), (0, []), (0, [1, 37, 38])]
noncomputable def n41 : FInfo := ⟨bodyOf Tryz.f41, [.tmp 2], [35]⟩
theorem i41 : finfo Tryz.prog 41 d41 = some n41 := finfo_at Tryz.func41 rfl (by kernel_rfl) (by kernel_rfl)
noncomputable def c51 : CallP := orC 41 (fun xs => bodyP Tryz.prog inl c50 q1 100 d41 n41 xs) c50
theorem c51_ok : CpOK Tryz.prog c51 := orC_ok c50_ok fun args r h => bodyP_ok mixed c50_ok q1_ok i41 h
def d44 : List (Nat × List Nat) := [(0, [2]), (0, []), (0, [3]), (0, []), (0, []), (0, []), (0, [0, 5, 6, 7])]
noncomputable def n44 : FInfo := ⟨bodyOf Tryz.f44, [.tmp 2], [27]⟩
theorem i44 : finfo Tryz.prog 44 d44 = some n44 := finfo_at Tryz.func44 rfl (by kernel_rfl) (by kernel_rfl)
def z44 (k : List AV → Option AV) : List AV → Option AV
  | [.arr 0 []] => some (.fresh 1 0 [])
  | xs => k xs
noncomputable def c52 : CallP := orC 44 (z44 fun xs => bodyP Tryz.prog inl c51 q1 100 d44 n44 xs) c51
theorem y44 (a : Option Addr) (c : Nat) : bodyP Tryz.prog inl c51 q1 100 d44 n44 [.v (.slice a 0 c)] = some (.fresh 1 0 []) := by cases a <;> kernel_rfl
theorem c52_ok : CpOK Tryz.prog c52 := orC_ok c51_ok fun args r h => by
  unfold z44 at h
  split at h
  · injection h with h; subst h
    exact PureOK.arr0 fun a c => bodyP_ok mixed c51_ok q1_ok i44 (y44 a c)
  · exact bodyP_ok mixed c51_ok q1_ok i44 h
def d49 : List (Nat × List Nat) := [(0, [4, 5]), (0, [19, 20, 21]), (0, [17, 18]), (0, [9]), (0, []), (0, [11, 48, 49, 50]), (0, [23, 24]), (0, []), (0, [7, 8, 25, 26, 27, 28, 29]), (0, [12, 13, 14]), (0, [30]), (0, []), (0, [32]), (0, []), (0, [33]), (0, []), (0, [34, 35, 36, 37]), (0, []), (0, [39, 40]), (0, []), (0, [41, 42]), (0, []), (0, [0, 43, 44, 45, 46, 47]), (0, []), (0, [1]), (0, []), (0, []), (0, []), (0, [52, 53, 54]), (0, []), (0, [55, 56, 57, 58, 59, 60]), (0, []), (0, [62, 63]), (0, []), (0, [64, 65, 66, 67, 68, 69]), (0, []), (0, [71, 72, 73, 74, 75, 76, 77]), (0, []), (0, []), (0, []), (0, [78]), (0, []), (0, [15, 79, 80, 81, 82, 83]), (0, []), (0, [84]), (0, []), (0, [86]), (0, []), (0, [10, 16, 87])]
noncomputable def n49 : FInfo := ⟨bodyOf Tryz.f49, [.tmp 4, .tmp 5], [27, 35]⟩
theorem i49 : finfo Tryz.prog 49 d49 = some n49 := finfo_at Tryz.func49 rfl (by kernel_rfl) (by kernel_rfl)
noncomputable def c53 : CallP := orC 49 (fun xs => bodyP Tryz.prog inl c52 q1 100 d49 n49 xs) c52
theorem c53_ok : CpOK Tryz.prog c53 := orC_ok c52_ok fun args r h => bodyP_ok mixed c52_ok q1_ok i49 h
def d100 : List (Nat × List Nat) := [(0, [2, 3]), (0, []), (0, [0, 4, 5])]
noncomputable def n100 : FInfo := ⟨bodyOf Tryz.f100, [.tmp 2, .tmp 3], [67, 35]⟩
theorem i100 : finfo Tryz.prog 100 d100 = some n100 := finfo_at Tryz.func100 rfl (by kernel_rfl) (by kernel_rfl)
noncomputable def c54 : CallP := orC 100 (fun xs => bodyP Tryz.prog inl c53 q1 100 d100 n100 xs) c53
theorem c54_ok : CpOK Tryz.prog c54 := orC_ok c53_ok fun args r h => bodyP_ok mixed c53_ok q1_ok i100 h
def d91 : List (Nat × List Nat) := [(0, [4]), (0, [1, 5, 6]), (0, [0, 7, 8, 9, 10, 11, 12]), (0, []), (0, [14, 15]), (0, []), (0, [16]), (0, []), (0, [18, 19, 20, 21, 22, 23, 24, 25]), (0, []), (0, []), (0, []), (0, [])]
noncomputable def n91 : FInfo := ⟨bodyOf Tryz.f91, [.tmp 4], [35]⟩
theorem i91 : finfo Tryz.prog 91 d91 = some n91 := finfo_at Tryz.func91 rfl (by kernel_rfl) (by kernel_rfl)
noncomputable def c55 : CallP := orC 91 (fun xs => bodyP Tryz.prog inl c54 q1 100 d91 n91 xs) c54
theorem c55_ok : CpOK Tryz.prog c55 := orC_ok c54_ok fun args r h => bodyP_ok mixed c54_ok q1_ok i91 h
def d95 : List (Nat × List Nat) := [(0, [0, 2, 3]), (0, []), (6, [1, 12, 13, 14, 15]), (0, []), (0, [16, 17, 18, 19, 20, 21, 22]), (0, []), (0, [24, 25, 26]), (0, []), (0, [27, 28, 29, 30, 31, 32]), (0, []), (0, []), (0, []), (0, [34, 35, 36, 37]), (0, []), (0, []), (0, []), (0, [39, 40, 41, 42]), (0, []), (0, [43, 44, 45, 46, 47, 48]), (0, []), (10, [49, 50, 51, 52, 53, 54, 55, 56, 57]), (0, []), (0, [59, 60, 61]), (0, []), (12, [62, 63, 64, 65, 66, 67, 68, 69, 70, 71]), (0, []), (0, [72]), (0, []), (0, [74]), (0, []), (0, [6, 11, 75]), (0, []), (0, [77, 78, 79, 80, 81, 82, 83]), (0, []), (0, [4, 7, 8, 84]), (0, []), (0, [86, 87, 88, 89, 90, 91, 92, 93]), (0, []), (0, [5, 9, 10, 94, 95, 96, 97])]
noncomputable def n95 : FInfo := ⟨bodyOf Tryz.f95, [.tmp 2, .tmp 3], [67, 35]⟩
theorem i95 : finfo Tryz.prog 95 d95 = some n95 := finfo_at Tryz.func95 rfl (by kernel_rfl) (by kernel_rfl)
noncomputable def c56 : CallP := orC 95 (fun xs => bodyP Tryz.prog inl c55 q1 100 d95 n95 xs) c55
theorem c56_ok : CpOK Tryz.prog c56 := orC_ok c55_ok fun args r h => bodyP_ok mixed c55_ok q1_ok i95 h
def d96 : List (Nat × List Nat) := [(0, [0, 2, 3]), (0, []), (8, [8, 9, 10, 11, 12, 13]), (0, []), (0, [14, 15, 16, 17, 18, 19, 20]), (0, []), (0, [22, 23, 24]), (0, []), (0, [25, 26]), (0, []), (0, [28, 29]), (0, []), (0, [30, 31]), (0, []), (0, [33, 34]), (0, []), (7, [35, 36, 37, 38, 39, 40]), (0, []), (0, [42, 43, 44]), (0, []), (8, [4, 5, 45, 46, 47, 48, 49, 50, 51]), (0, []), (0, [52]), (0, []), (0, [54, 55, 56, 57]), (0, []), (0, [58]), (0, []), (0, [60]), (0, []), (0, [1, 6, 7, 61, 62, 63, 64])]
noncomputable def n96 : FInfo := ⟨bodyOf Tryz.f96, [.tmp 2, .tmp 3], [67, 35]⟩
theorem i96 : finfo Tryz.prog 96 d96 = some n96 := finfo_at Tryz.func96 rfl (by kernel_rfl) (by kernel_rfl)
noncomputable def c57 : CallP := orC 96 (fun xs => bodyP Tryz.prog inl c56 q1 100 d96 n96 xs) c56
theorem c57_ok : CpOK Tryz.prog c57 := orC_ok c56_ok fun args r h => bodyP_ok mixed c56_ok q1_ok i96 h
def d42 : List (Nat × List Nat) := [(0, [0, 2, 3]), (0, [1, 5, 9, 10, 54, 78, 108, 115]), (0, [6, 7]), (0, []), (0, [8]), (0, []), (0, [11]), (0, []), (0, [12]), (0, []), (0, [13]), (0, []), (0, [14]), (0, []), (0, [15]), (0, []), (0, [16]), (0, []), (0, [17]), (0, []), (0, [18]), (1, []), (0, [19]), (0, []), (0, [20]), (0, []), (0, [21]), (0, []), (0, [22]), (0, []), (0, [23]), (0, []), (0, [24]), (0, []), (0, [25]), (0, []), (0, [26]), (0, []), (0, [27]), (0, []), (0, [28, 29, 30, 31]), (0, []), (0, [33]), (0, []), (0, [34, 35, 36, 37]), (0, []), (0, [38]), (0, []), (0, [40]), (0, []), (0, [42]), (0, []), (8, [43, 44, 45, 46, 47, 48, 49]), (0, []), (0, [51, 52, 53]), (0, []), (0, [55]), (0, []), (0, [56]), (0, []), (0, [57]), (0, []), (0, [58]), (0, []), (0, [59]), (0, []), (0, [60]), (0, []), (0, [61]), (0, []), (0, [62]), (0, []), (0, [63]), (0, []), (0, [64]), (0, []), (0, [65]), (0, []), (0, [66]), (0, []), (0, [67]), (0, []), (0, [68]), (0, []), (0, [69]), (0, []), (0, [70]), (0, []), (0, [71]), (0, []), (0, [72]), (0, []), (0, [73]), (0, []), (0, [74, 75, 76, 77]), (0, []), (0, [79]), (0, []), (0, [80]), (0, []), (0, [81]), (0, []), (0, [82]), (0, []), (0, [83]), (0, []), (0, [84]), (0, []), (0, [85]), (1, []), (0, [86, 87, 88, 89]), (0, []), (0, [91]), (0, []), (0, [92, 93, 94, 95]), (0, []), (0, [97]), (0, []), (0, [98, 99, 100, 101]), (0, []), (0, [103]), (0, []), (0, [104, 105, 106, 107]), (0, []), (0, [109]), (0, []), (0, [110]), (0, []), (0, [111, 112, 113, 114]), (0, []), (0, [116]), (0, []), (0, [117]), (0, []), (0, [118]), (0, []), (0, [119, 120, 121, 122]), (0, []), (0, [4, 123, 124, 125, 126]), (0, []), (0, []), (0, []), (0, []), (0, []), (0, []), (0, []), (0, []), (0, []), (0, []), (0, []), (0, []), (0, []), (0, []), (0, []), (0, []), (0, []), (0, []), (1, []), (0, []), (0, []), (0, []), (0, []), (0, []), (0, []), (0, []), (0, []), (0, []), (0, []), (0, []), (0, []), (0, []), (0, []), (0, []), (0, []), (0, []), (0, []), (0, []), (0, []), (0, []), (0, []), (0, []), (0, []), (0, []), (0, []), (0, []), (0, []), (0, []), (0, []), (0, []), (0, []), (0, []), (0, []), (0, []), (0, []), (0, []), (0, []), (0, []), (0, []), (0, []), (0, []), (0, []), (0, []), (0, []), (0, []), (0, []), (0, []), (0, []), (0, []), (0, []), (0, []), (0, []), (0, []), (0, []), (0, []), (0, []), (0, []), (0, []), (1, []), (0, []), (0, []), (0, []), (0, []), (0, []), (0, []), (0, []), (0, []), (0, []), (0, []), (0, []), (0, []), (0, []), (1, [])]
noncomputable def n42 : FInfo := ⟨bodyOf Tryz.f42, [.tmp 2, .tmp 3], [67, 35]⟩
theorem i42 : finfo Tryz.prog 42 d42 = some n42 := finfo_at Tryz.func42 rfl (by kernel_rfl) (by kernel_rfl)
noncomputable def c58 : CallP := orC 42 (fun xs => bodyP Tryz.prog inl c57 q1 100 d42 n42 xs) c57
theorem c58_ok : CpOK Tryz.prog c58 := orC_ok c57_ok fun args r h => bodyP_ok mixed c57_ok q1_ok i42 h
def d43 : List (Nat × List Nat) := [(0, [0, 2]), (0, [4, 5, 17]), (0, [3]), (0, []), (0, [6]), (0, []), (0, [7]), (0, []), (0, [8]), (0, []), (0, [9]), (1, []), (0, [10]), (0, []), (0, [11]), (0, []), (0, [12]), (0, []), (0, [13]), (0, []), (0, [14]), (0, []), (0, [15]), (0, []), (0, [16]), (0, []), (0, []), (0, []), (0, [18]), (0, []), (0, [19]), (0, []), (0, [20]), (0, []), (0, [21]), (1, []), (0, []), (0, []), (0, [23]), (0, []), (0, [24, 25, 26]), (0, []), (0, [28]), (0, []), (0, [29, 30, 31, 32]), (0, []), (0, [34]), (0, []), (0, [35, 36, 37]), (0, []), (0, [1, 38, 39, 40])]
noncomputable def n43 : FInfo := ⟨bodyOf Tryz.f43, [.tmp 2], [3]⟩
theorem i43 : finfo Tryz.prog 43 d43 = some n43 := finfo_at Tryz.func43 rfl (by kernel_rfl) (by kernel_rfl)
noncomputable def c59 : CallP := orC 43 (fun xs => bodyP Tryz.prog inl c58 q1 100 d43 n43 xs) c58
theorem c59_ok : CpOK Tryz.prog c59 := orC_ok c58_ok fun args r h => bodyP_ok mixed c58_ok q1_ok i43 h
def d25 : List (Nat × List Nat) := [(0, [1, 8, 9]), (0, [10, 40, 41, 42]), (0, [0, 2, 3, 5, 19, 20, 21, 22, 23]), (0, []), (0, [24, 25]), (0, []), (0, []), (0, []), (0, [27, 28]), (0, []), (0, [29]), (0, []), (0, [31]), (0, []), (0, [11, 32, 33, 34, 35, 36]), (0, []), (0, [37]), (0, []), (0, [39]), (0, []), (0, [13, 8000014]), (0, []), (0, [12]), (0, []), (0, []), (0, []), (0, [44, 45]), (0, []), (0, [17, 46, 47, 48, 49, 50]), (0, []), (0, [18, 51]), (0, []), (0, []), (0, []), (0, [16, 53, 54, 55, 56, 57, 58, 59, 60]), (0, []), (0, [61]), (0, []), (0, [14, 62])]
noncomputable def n25 : FInfo := ⟨bodyOf Tryz.f25, [.tmp 8, .tmp 9], [51, 35]⟩
theorem i25 : finfo Tryz.prog 25 d25 = some n25 := finfo_at Tryz.func25 rfl (by kernel_rfl) (by kernel_rfl)
noncomputable def c60 : CallP := orC 25 (fun xs => bodyP Tryz.prog inl c59 q1 100 d25 n25 xs) c59
theorem c60_ok : CpOK Tryz.prog c60 := orC_ok c59_ok fun args r h => bodyP_ok mixed c59_ok q1_ok i25 h
def d26 : List (Nat × List Nat) := [(0, [2]), (0, [7, 8, 9]), (0, [8000003]), (0, []), (0, [0]), (0, []), (0, []), (0, []), (0, [11, 12]), (0, []), (0, [13]), (0, []), (0, [14, 15]), (0, []), (8, [17, 18, 19, 20, 21, 22, 23, 24]), (0, []), (0, [5, 6, 25, 26, 27, 28]), (0, []), (0, [29]), (0, []), (0, [3, 30])]
noncomputable def n26 : FInfo := ⟨bodyOf Tryz.f26, [.tmp 2], [51]⟩
theorem i26 : finfo Tryz.prog 26 d26 = some n26 := finfo_at Tryz.func26 rfl (by kernel_rfl) (by kernel_rfl)
noncomputable def c61 : CallP := orC 26 (fun xs => (bodyP Tryz.prog inl c60 q1 100 d26 n26 xs).bind (sealR 4)) c60
theorem c61_ok : CpOK Tryz.prog c61 := orC_ok c60_ok fun args r h => by
  obtain ⟨r0, h0, h1⟩ := Option.bind_eq_some_iff.1 h
  exact (bodyP_ok mixed c60_ok q1_ok i26 h0).sealed h1
def d106 : List (Nat × List Nat) := [(0, [2]), (0, [0, 4, 5]), (0, [6, 7, 8]), (0, []), (0, []), (0, []), (0, [9, 10, 11]), (0, []), (0, [12]), (0, []), (0, [14, 15]), (0, []), (0, [16, 17, 18, 19]), (0, []), (0, [20, 21, 22, 23, 24, 25]), (0, []), (0, [3, 26])]
noncomputable def n106 : FInfo := ⟨bodyOf Tryz.f106, [.tmp 2], [27]⟩
theorem i106 : finfo Tryz.prog 106 d106 = some n106 := finfo_at Tryz.func106 rfl (by kernel_rfl) (by kernel_rfl)
noncomputable def c62 : CallP := orC 106 (fun xs => bodyP Tryz.prog inl c61 q1 100 d106 n106 xs) c61
theorem c62_ok : CpOK Tryz.prog c62 := orC_ok c61_ok fun args r h => bodyP_ok mixed c61_ok q1_ok i106 h
def d105 : List (Nat × List Nat) := [(0, [4, 5]), (0, [1, 30, 31, 32]), (0, [11, 12, 13, 14, 15]), (0, []), (0, [16]), (0, []), (0, [18]), (0, []), (0, [6, 7, 19, 20, 21, 22, 23, 24]), (0, []), (0, []), (0, []), (0, [26, 27, 28]), (0, []), (0, [0, 29]), (0, []), (0, []), (0, []), (0, [34, 35, 36]), (0, []), (0, [9, 37, 38, 39, 40, 41, 42]), (0, []), (0, [10, 43, 44, 45]), (0, []), (0, [46]), (0, []), (0, [8, 47])]
noncomputable def n105 : FInfo := ⟨bodyOf Tryz.f105, [.tmp 4, .tmp 5], [27, 35]⟩
theorem i105 : finfo Tryz.prog 105 d105 = some n105 := finfo_at Tryz.func105 rfl (by kernel_rfl) (by kernel_rfl)
noncomputable def c63 : CallP := orC 105 (fun xs => bodyP Tryz.prog inl c62 q1 100 d105 n105 xs) c62
theorem c63_ok : CpOK Tryz.prog c63 := orC_ok c62_ok fun args r h => bodyP_ok mixed c62_ok q1_ok i105 h
def d50 : List (Nat × List Nat) := [(0, [6, 7]), (0, [0, 14, 65, 66, 67]), (0, [8, 18, 19, 20, 21, 22]), (0, [16, 17]), (0, [23]), (0, []), (0, [25]), (0, []), (0, [9, 10, 26, 27, 28, 29, 30]), (0, []), (0, [31]), (0, []), (0, [33]), (0, []), (0, [11, 34, 35, 36, 37, 38, 39]), (0, []), (0, [12, 13, 40, 41, 42, 43, 44, 45, 46]), (0, []), (0, []), (0, []), (0, [2, 48, 49, 50, 51, 52, 53, 1000000014]), (0, []), (0, [54]), (0, []), (0, [56]), (0, []), (0, [1, 13, 57, 58, 59, 60, 61, 62, 63]), (0, []), (0, []), (0, []), (0, [64]), (0, []), (0, []), (0, []), (0, [69, 70, 71]), (0, []), (0, [72, 73, 74, 75]), (0, []), (0, [77, 78, 79, 80, 81, 82, 83, 84]), (0, []), (0, [85]), (0, []), (0, [15, 86])]
noncomputable def n50 : FInfo := ⟨bodyOf Tryz.f50, [.tmp 6, .tmp 7], [3, 35]⟩
theorem i50 : finfo Tryz.prog 50 d50 = some n50 := finfo_at Tryz.func50 rfl (by kernel_rfl) (by kernel_rfl)
noncomputable def c64 : CallP := orC 50 (fun xs => bodyP Tryz.prog inl c63 q1 100 d50 n50 xs) c63
theorem c64_ok : CpOK Tryz.prog c64 := orC_ok c63_ok fun args r h => bodyP_ok mixed c63_ok q1_ok i50 h
def d52 : List (Nat × List Nat) := [(0, [0, 1, 3, 4, 5, 6])]
noncomputable def n52 : FInfo := ⟨bodyOf Tryz.f52, [], []⟩
theorem i52 : finfo Tryz.prog 52 d52 = some n52 := finfo_at Tryz.func52 rfl (by kernel_rfl) (by kernel_rfl)
noncomputable def q2 : CallI := ciE Tryz.prog inl c64 q1 100 52 d52 n52 q1
theorem q2_ok : CiOK Tryz.prog q2 := ciE_ok mixed c64_ok q1_ok i52 q1_ok
def d54 : List (Nat × List Nat) := [(0, [8, 9, 10, 11]), (0, []), (0, [12, 13, 14, 15, 16, 17, 18, 19, 20]), (0, []), (13, [7, 22, 23, 24, 25, 26, 27, 28, 29, 30, 31, 32]), (0, []), (13, [6, 33, 34, 35, 36, 37, 38, 39, 40, 41, 42, 43, 44]), (0, []), (0, [0, 1, 2, 3, 4, 45, 46, 47, 48])]
noncomputable def n54 : FInfo := ⟨bodyOf Tryz.f54, [], []⟩
theorem i54 : finfo Tryz.prog 54 d54 = some n54 := finfo_at Tryz.func54 rfl (by kernel_rfl) (by kernel_rfl)
noncomputable def q3 : CallI := ciE Tryz.prog inl c64 q2 100 54 d54 n54 q2
theorem q3_ok : CiOK Tryz.prog q3 := ciE_ok mixed c64_ok q2_ok i54 q2_ok
def d166 : List (Nat × List Nat) := [(0, [0, 2]), (0, [1, 6, 7]), (0, [1000003]), (0, []), (0, [5]), (0, []), (0, []), (0, []), (0, [9]), (0, []), (0, [4, 10, 11, 12, 13, 14, 15, 16, 17, 18, 19, 20, 21, 22, 23]), (0, []), (0, [24]), (0, []), (0, [3, 25])]
noncomputable def n166 : FInfo := ⟨bodyOf Tryz.f166, [.tmp 2], [22]⟩
theorem i166 : finfo Tryz.prog 166 d166 = some n166 := finfo_at Tryz.func166 rfl (by kernel_rfl) (by kernel_rfl)
noncomputable def c65 : CallP := orC 166 (fun xs => bodyP Tryz.prog inl c64 q3 100 d166 n166 xs) c64
theorem c65_ok : CpOK Tryz.prog c65 := orC_ok c64_ok fun args r h => bodyP_ok mixed c64_ok q3_ok i166 h
def d107 : List (Nat × List Nat) := [(0, [0, 4]), (0, []), (0, [1, 2, 5, 6, 7, 8, 9, 10, 11, 12, 13, 14, 15, 16, 17, 18, 19])]
noncomputable def n107 : FInfo := ⟨bodyOf Tryz.f107, [.tmp 4], [22]⟩
theorem i107 : finfo Tryz.prog 107 d107 = some n107 := finfo_at Tryz.func107 rfl (by kernel_rfl) (by kernel_rfl)
noncomputable def c66 : CallP := orC 107 (fun xs => bodyP Tryz.prog inl c65 q3 100 d107 n107 xs) c65
theorem c66_ok : CpOK Tryz.prog c66 := orC_ok c65_ok fun args r h => bodyP_ok mixed c65_ok q3_ok i107 h
def d108 : List (Nat × List Nat) := [(0, [0, 4]), (0, []), (0, [1, 2, 5, 6, 7, 8, 9, 10, 11, 12, 13, 14, 15, 16, 17, 18, 19])]
noncomputable def n108 : FInfo := ⟨bodyOf Tryz.f108, [.tmp 4], [22]⟩
theorem i108 : finfo Tryz.prog 108 d108 = some n108 := finfo_at Tryz.func108 rfl (by kernel_rfl) (by kernel_rfl)
noncomputable def c67 : CallP := orC 108 (fun xs => bodyP Tryz.prog inl c66 q3 100 d108 n108 xs) c66
theorem c67_ok : CpOK Tryz.prog c67 := orC_ok c66_ok fun args r h => bodyP_ok mixed c66_ok q3_ok i108 h
def d51 : List (Nat × List Nat) := [(0, [0, 1]), (0, [4, 13, 14]), (0, [1000006]), (0, []), (0, [12]), (0, [2, 3, 6, 25, 26]), (0, []), (0, []), (0, [16]), (0, [9, 32, 33, 34]), (0, [7, 17, 18, 19, 20, 21, 22]), (0, []), (0, [23]), (0, []), (0, [24]), (0, []), (0, []), (0, []), (0, [28]), (0, []), (0, [8, 29, 30, 31]), (0, []), (0, []), (0, []), (0, []), (0, []), (0, [36, 37]), (0, []), (0, [11, 38, 39, 40, 41, 42]), (0, []), (0, [43]), (0, []), (0, [44])]
noncomputable def n51 : FInfo := ⟨bodyOf Tryz.f51, [], []⟩
theorem i51 : finfo Tryz.prog 51 d51 = some n51 := finfo_at Tryz.func51 rfl (by kernel_rfl) (by kernel_rfl)
noncomputable def q4 : CallI := ciE Tryz.prog inl c67 q3 100 51 d51 n51 q3
theorem q4_ok : CiOK Tryz.prog q4 := ciE_ok mixed c67_ok q3_ok i51 q3_ok
def d28 : List (Nat × List Nat) := [(0, [0, 1, 4]), (0, [5, 6, 7, 8, 9, 10, 11, 94, 95]), (6, [21, 22, 23, 24]), (0, []), (0, [25, 26]), (0, []), (0, [28, 29, 30, 31]), (0, []), (0, [32, 33]), (0, []), (0, [35, 36, 37, 38]), (0, []), (0, [39, 40, 41, 42, 43, 44]), (0, []), (18, [2, 45, 46, 47, 48, 49, 50, 51, 52, 53, 54, 55, 56, 57, 58, 59, 60, 61]), (0, []), (18, [3, 62, 63, 64, 65, 66, 67, 68, 69, 70, 71, 72, 73, 74, 75, 76, 77, 78]), (0, []), (12, [12, 79, 80, 81, 82, 83, 84, 85, 86, 87, 88]), (0, []), (0, [14, 89, 90, 91, 92, 93]), (0, []), (0, []), (0, []), (0, [13]), (0, []), (0, []), (0, []), (0, [97]), (0, []), (0, [18, 98, 99, 100, 101, 102, 103, 104, 105, 106]), (0, []), (0, [16, 20, 107, 108, 109, 110, 111, 112, 113, 114, 115]), (0, []), (37999042570603475913860624857926699358948767462528, [17, 19, 116, 117, 118, 119, 120, 121, 122, 123, 124, 125, 126, 127, 128, 129, 130, 131, 132, 133, 134, 135, 136, 137, 138, 139, 140, 141]), (0, []), (0, [142, 143, 144, 145]), (0, []), (0, [146]), (0, []), (0, [15, 147])]
noncomputable def n28 : FInfo := ⟨bodyOf Tryz.f28, [.tmp 4], [22]⟩
theorem i28 : finfo Tryz.prog 28 d28 = some n28 := finfo_at Tryz.func28 rfl (by kernel_rfl) (by kernel_rfl)
noncomputable def c68 : CallP := orC 28 (fun xs => bodyP Tryz.prog inl c67 q4 100 d28 n28 xs) c67
theorem c68_ok : CpOK Tryz.prog c68 := orC_ok c67_ok fun args r h => bodyP_ok mixed c67_ok q4_ok i28 h
def d53 : List (Nat × List Nat) := [(0, [0]), (0, []), (10, [7, 8, 9, 10, 11, 12, 13, 14]), (0, []), (0, [1]), (0, []), (0, [16, 17, 18, 19, 20, 21]), (0, []), (0, [2, 5, 6, 22, 23, 24, 25, 26, 27])]
noncomputable def n53 : FInfo := ⟨bodyOf Tryz.f53, [.cell 4 75], [75]⟩
theorem i53 : finfo Tryz.prog 53 d53 = some n53 := finfo_at Tryz.func53 rfl (by kernel_rfl) (by kernel_rfl)
noncomputable def c69 : CallP := orC 53 (fun xs => bodyP Tryz.prog inl c68 q4 100 d53 n53 xs) c68
theorem c69_ok : CpOK Tryz.prog c69 := orC_ok c68_ok fun args r h => bodyP_ok mixed c68_ok q4_ok i53 h
def d29 : List (Nat × List Nat) := [(0, [0, 1, 2, 6]), (0, []), (0, [4001000007]), (0, []), (13, [3, 4, 5, 8, 9, 10, 11, 12, 13, 14, 15, 16, 17, 18, 19, 20, 21]), (0, []), (0, [7, 22])]
noncomputable def n29 : FInfo := ⟨bodyOf Tryz.f29, [.tmp 6], [22]⟩
theorem i29 : finfo Tryz.prog 29 d29 = some n29 := finfo_at Tryz.func29 rfl (by kernel_rfl) (by kernel_rfl)
noncomputable def c70 : CallP := orC 29 (fun xs => bodyP Tryz.prog inl c69 q4 100 d29 n29 xs) c69
theorem c70_ok : CpOK Tryz.prog c70 := orC_ok c69_ok fun args r h => bodyP_ok mixed c69_ok q4_ok i29 h
def d11 : List (Nat × List Nat) := [(0, [1, 7]), (0, [21, 22, 23]), (0, [17, 18]), (0, []), (0, [20]), (0, []), (0, [5000008]), (0, []), (0, []), (0, []), (0, []), (0, []), (0, [25, 26]), (0, []), (0, [27, 28]), (0, []), (0, [30, 31]), (0, []), (0, [32]), (0, []), (0, [34, 35]), (0, []), (0, [10, 11, 36, 37, 38, 39, 40]), (0, []), (0, [41]), (0, []), (10, [2, 42, 43, 44, 45, 46, 47, 48, 49]), (0, []), (0, [50]), (0, []), (0, [52, 53]), (0, []), (0, [12, 13, 54, 55, 56, 57, 58]), (0, []), (0, [16, 59, 60, 61, 62, 63, 64]), (0, []), (0, [15, 65]), (0, []), (0, [67]), (0, []), (0, [0, 68]), (0, []), (8, [70, 71, 72, 73, 74, 75, 76, 77]), (0, []), (0, [78, 79, 80, 81, 82, 83]), (0, []), (0, [4, 8, 14, 84])]
noncomputable def n11 : FInfo := ⟨bodyOf Tryz.f11, [.cell 6 31, .tmp 7], [31, 35]⟩
theorem i11 : finfo Tryz.prog 11 d11 = some n11 := finfo_at Tryz.func11 rfl (by kernel_rfl) (by kernel_rfl)
noncomputable def c71 : CallP := orC 11 (fun xs => bodyP Tryz.prog inl c70 q4 100 d11 n11 xs) c70
theorem c71_ok : CpOK Tryz.prog c71 := orC_ok c70_ok fun args r h => bodyP_ok mixed c70_ok q4_ok i11 h
def d16 : List (Nat × List Nat) := [(0, []), (0, []), (0, [0, 1, 5, 6, 7])]
noncomputable def n16 : FInfo := ⟨bodyOf Tryz.f16, [.cell 4 31], [31]⟩
theorem i16 : finfo Tryz.prog 16 d16 = some n16 := finfo_at Tryz.func16 rfl (by kernel_rfl) (by kernel_rfl)
noncomputable def c72 : CallP := orC 16 (fun xs => bodyP Tryz.prog inl c71 q4 100 d16 n16 xs) c71
theorem c72_ok : CpOK Tryz.prog c72 := orC_ok c71_ok fun args r h => bodyP_ok mixed c71_ok q4_ok i16 h
def d8 : List (Nat × List Nat) := [(0, [0]), (0, []), (0, [5, 6, 7, 8, 9, 10, 11, 12, 13, 14, 15, 16]), (0, []), (0, [17, 18, 19, 20, 21, 22, 23, 24, 25, 26, 27, 28, 29, 30]), (0, []), (0, [31, 32, 33, 34, 35, 36, 37, 38, 39]), (0, []), (0, []), (0, []), (0, [1, 2, 3, 4, 41, 42, 43, 44, 45, 46, 47, 48, 49, 50, 51, 52, 53, 54, 55, 56, 57, 58, 59, 60, 61, 62, 63, 64, 65, 66, 67, 68, 69, 70, 71, 72, 73, 74, 75, 76, 77])]
noncomputable def n8 : FInfo := ⟨bodyOf Tryz.f8, [.tmp 0], [4]⟩
theorem i8 : finfo Tryz.prog 8 d8 = some n8 := finfo_at Tryz.func8 rfl (by kernel_rfl) (by kernel_rfl)
noncomputable def c73 : CallP := orC 8 (fun xs => bodyP Tryz.prog inl c72 q4 100 d8 n8 xs) c72
theorem c73_ok : CpOK Tryz.prog c73 := orC_ok c72_ok fun args r h => bodyP_ok mixed c72_ok q4_ok i8 h
theorem aw8 : c73 8 [] = some (.v (.bool true)) := by kernel_rfl
end Aw
theorem awake8 : PureOK Tryz.prog 8 [] (.v (.bool true)) := Aw.c73_ok 8 [] _ Aw.aw8
theorem closed84_73 : PureOK Tryz.prog 84 [.v (.int .i64 73)] (.tuple [.v (.int .i64 2), .v (.int .i64 2), .v (.int .i64 1), .v (.int .i64 1)]) := Aw.k84_ok _ _ Aw.p84_0
theorem closed84_74 : PureOK Tryz.prog 84 [.v (.int .i64 74)] (.tuple [.v (.int .i64 2), .v (.int .i64 3), .v (.int .i64 1), .v (.int .i64 1)]) := Aw.k84_ok _ _ Aw.p84_1
end Go.Av
