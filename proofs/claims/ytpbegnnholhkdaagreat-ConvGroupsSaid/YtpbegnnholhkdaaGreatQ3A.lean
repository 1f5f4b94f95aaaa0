/- The documents' examples, reckoned by the interpreter itself. Made by a program of mine. Conditions: none. -/
import Derived.Test.YtpbegnnholhkdaaGreatLt
import Derived.Test.YtpbegnnholhkdaaGreatProg
set_option linter.unusedVariables false
set_option linter.defProp false
set_option maxRecDepth 100000
open Go Go.Proofs
namespace Go.Av
namespace Aw
def bodyOf (f : Func) : Code := f.body.getD .skip
theorem mixed : Tryz.prog.follows .mixedOrders = true := by kernel_rfl
def inl : Cfg := inlC [19, 20, 166]
def inls : Cfg := ⟨inl.inl, fun _ => [(0, [])]⟩
def c0 : CallP := noP
def q0 : CallI := noI
theorem c0_ok : CpOK Tryz.prog c0 := noP_ok
theorem q0_ok : CiOK Tryz.prog q0 := noI_ok
/-! 33: (lattice/conv.axis).at -/
def d33 : List (Nat × List Nat) := [(0, [0, 6, 7]), (0, []), (0, [1, 2, 9, 10, 11, 12, 13, 14, 15, 16, 17, 18, 19, 20]), (0, []), (11, [3, 8, 21, 22, 23, 24, 25, 26, 27, 28, 29])]
noncomputable def n33 : FInfo := ⟨bodyOf Tryz.f33, [.tmp 6, .tmp 7], [3, 4]⟩
theorem i33 : finfo Tryz.prog 33 d33 = some n33 := finfo_at Tryz.func33 rfl (by kernel_rfl) (by kernel_rfl)
noncomputable def c1 : CallP := orC 33 (fun xs => bodyP Tryz.prog inl c0 q0 100 d33 n33 xs) c0
theorem c1_ok : CpOK Tryz.prog c1 := orC_ok c0_ok fun args r h => bodyP_ok mixed c0_ok q0_ok i33 h
/-! 104: lattice/soft.open -/
def d104 : List (Nat × List Nat) := [(0, []), (0, [3, 4]), (0, [6, 7, 8, 9]), (0, []), (0, [10, 11, 12]), (0, []), (0, [0, 13, 14, 15, 16]), (0, []), (0, [17, 18, 19, 20, 21, 22]), (0, []), (0, [24, 25]), (0, []), (0, [26, 27, 28]), (0, []), (0, [29, 30, 31]), (0, []), (0, [33, 34]), (0, []), (0, [35, 36, 37]), (0, []), (0, [5, 38])]
noncomputable def n104 : FInfo := ⟨bodyOf Tryz.f104, [.cell 2 119], [119]⟩
theorem i104 : finfo Tryz.prog 104 d104 = some n104 := finfo_at Tryz.func104 rfl (by kernel_rfl) (by kernel_rfl)
noncomputable def c2 : CallP := orC 104 (fun xs => bodyP Tryz.prog inl c1 q0 100 d104 n104 xs) c1
theorem c2_ok : CpOK Tryz.prog c2 := orC_ok c1_ok fun args r h => bodyP_ok mixed c1_ok q0_ok i104 h
/-! 107: lattice/soft.sign -/
def d107 : List (Nat × List Nat) := [(0, [2]), (0, []), (0, [0]), (0, []), (0, []), (0, []), (0, [])]
noncomputable def n107 : FInfo := ⟨bodyOf Tryz.f107, [.tmp 2], [23]⟩
theorem i107 : finfo Tryz.prog 107 d107 = some n107 := finfo_at Tryz.func107 rfl (by kernel_rfl) (by kernel_rfl)
noncomputable def c3 : CallP := orC 107 (fun xs => bodyP Tryz.prog inl c2 q0 100 d107 n107 xs) c2
theorem c3_ok : CpOK Tryz.prog c3 := orC_ok c2_ok fun args r h => bodyP_ok mixed c2_ok q0_ok i107 h
/-! 144: math/bits.Len64 -/
def d144 : List (Nat × List Nat) := [(0, []), (0, []), (0, [3]), (0, []), (0, [5, 6]), (0, []), (0, []), (0, []), (0, [7]), (0, []), (0, [9, 10]), (0, []), (0, [11, 12]), (0, []), (0, [13]), (0, []), (0, [15, 16]), (0, []), (0, [17, 18]), (0, []), (0, [0, 19, 20, 21, 22, 23, 24])]
noncomputable def n144 : FInfo := ⟨bodyOf Tryz.f144, [.tmp 2], [3]⟩
theorem i144 : finfo Tryz.prog 144 d144 = some n144 := finfo_at Tryz.func144 rfl (by kernel_rfl) (by kernel_rfl)
noncomputable def c4 : CallP := orC 144 (fun xs => bodyP Tryz.prog inl c3 q0 100 d144 n144 xs) c3
theorem c4_ok : CpOK Tryz.prog c4 := orC_ok c3_ok fun args r h => bodyP_ok mixed c3_ok q0_ok i144 h
/-! 106: lattice/soft.Round -/
def d106 : List (Nat × List Nat) := [(0, [10]), (0, []), (0, [21, 22]), (0, [3, 4, 11]), (0, [24, 25, 26, 27, 28, 29]), (0, [14, 15, 16, 99, 111]), (0, [30, 31]), (0, []), (0, [33, 34, 35, 36, 37, 38]), (0, []), (0, [39, 40, 41]), (0, []), (0, [43, 44]), (0, []), (0, [45, 46, 47]), (0, []), (0, [48, 49, 50, 51, 52]), (0, []), (0, []), (0, []), (0, [53]), (0, []), (0, [54, 55, 56]), (0, []), (0, [57, 58, 59, 60, 61]), (0, []), (0, [62, 63, 64]), (0, []), (0, [65, 66, 67, 68, 69, 70, 71, 72, 73, 74, 75]), (0, []), (0, [18, 76, 77, 78, 79, 80, 81, 82]), (0, []), (0, [17, 83, 84, 85, 86, 87]), (0, []), (0, [89, 90]), (0, []), (0, [91, 92, 93, 94]), (0, []), (0, [96, 97, 98]), (0, []), (0, []), (0, []), (0, []), (0, []), (0, [100, 101, 102, 103, 104, 105, 106, 107]), (0, []), (0, [109, 110]), (0, []), (0, [112]), (0, []), (0, [113]), (0, []), (0, [114, 115, 116, 117, 118]), (0, []), (0, [120, 121]), (0, []), (0, [2, 12, 122, 123, 124]), (0, []), (0, [125]), (0, []), (0, [127, 128]), (0, []), (0, [129]), (0, []), (0, [131, 132, 133]), (0, []), (0, [13, 19, 134, 135, 136, 137, 138, 139]), (0, []), (0, [140]), (0, []), (0, [142, 143, 144]), (0, []), (0, [0, 1, 20, 145, 146, 147, 148, 149]), (0, []), (0, []), (0, []), (0, []), (0, []), (0, []), (0, []), (0, []), (0, []), (0, []), (0, []), (0, []), (0, []), (0, []), (0, []), (0, []), (0, []), (0, []), (0, []), (0, []), (0, []), (0, []), (0, []), (0, []), (0, []), (0, []), (0, []), (0, []), (0, []), (0, []), (0, []), (0, []), (0, []), (0, []), (0, []), (0, []), (0, []), (0, []), (0, []), (0, []), (0, []), (0, []), (0, []), (0, []), (0, []), (0, []), (0, []), (0, []), (0, []), (0, []), (0, []), (0, []), (0, []), (0, []), (0, []), (0, []), (0, []), (0, []), (0, []), (0, []), (0, []), (0, []), (0, []), (0, []), (0, []), (0, []), (0, []), (0, []), (0, []), (0, []), (0, []), (0, []), (0, []), (0, []), (0, []), (0, []), (0, []), (0, []), (0, []), (0, []), (0, []), (0, []), (0, []), (0, []), (0, []), (0, []), (0, []), (0, []), (0, []), (0, []), (0, []), (0, []), (0, []), (0, []), (0, []), (0, []), (0, []), (0, []), (0, []), (0, []), (0, []), (0, []), (0, []), (0, []), (0, []), (0, []), (0, []), (0, []), (0, []), (0, []), (0, []), (0, []), (0, []), (0, []), (0, []), (0, []), (0, []), (0, []), (0, []), (0, []), (0, []), (0, []), (0, []), (0, []), (0, []), (0, []), (0, []), (0, []), (0, []), (0, []), (0, []), (0, []), (0, []), (0, []), (0, []), (0, []), (0, []), (0, []), (0, []), (0, []), (0, []), (0, []), (0, []), (0, []), (0, []), (0, []), (0, []), (0, []), (0, []), (0, []), (1, [])]
noncomputable def n106 : FInfo := ⟨bodyOf Tryz.f106, [.tmp 10], [23]⟩
theorem i106 : finfo Tryz.prog 106 d106 = some n106 := finfo_at Tryz.func106 rfl (by kernel_rfl) (by kernel_rfl)
noncomputable def c5 : CallP := orC 106 (fun xs => bodyP Tryz.prog inl c4 q0 100 d106 n106 xs) c4
theorem c5_ok : CpOK Tryz.prog c5 := orC_ok c4_ok fun args r h => bodyP_ok mixed c4_ok q0_ok i106 h
/-! 72: lattice/soft.AddBy -/
def d72 : List (Nat × List Nat) := [(0, [6]), (0, [1, 2]), (0, [14, 15, 16, 17]), (0, [7, 13]), (0, [19, 20, 21, 22, 23, 24, 25, 26, 27, 28, 29, 30, 31, 32, 33, 34, 35, 36, 37, 38, 39]), (0, []), (0, []), (0, []), (0, [41, 42]), (0, []), (0, [43]), (0, []), (0, [45, 46]), (0, []), (0, [47]), (0, []), (0, [49, 50, 51, 52, 53, 54, 55, 56]), (0, []), (0, [57, 58]), (0, []), (0, [60]), (0, []), (0, [61, 62]), (0, []), (0, [63, 64, 65, 66]), (0, []), (0, [68, 69]), (0, []), (0, [70, 71, 72, 73, 74]), (0, []), (10, [75, 76, 77, 78, 79, 80]), (0, []), (0, [81]), (0, []), (0, [83, 84, 85]), (0, []), (0, [86, 87]), (0, []), (0, [88, 89, 90]), (0, []), (0, [91, 92, 93, 94, 95]), (0, []), (8, [96, 97, 98, 99, 100, 101, 102]), (0, []), (0, [9, 104, 105, 106, 107, 108]), (0, []), (0, [109, 110, 111, 112, 113, 114, 115, 116, 117]), (0, []), (0, [119]), (0, []), (0, [120, 121, 122, 123, 124, 125, 126, 127, 128]), (0, []), (0, [130, 131, 132]), (0, []), (0, [133, 134]), (0, []), (0, [136, 137, 138]), (0, []), (0, [139, 140, 141, 142, 143, 144, 145, 146]), (0, []), (0, [0, 8, 10, 11, 12, 147, 148, 149, 150, 151, 152, 153, 154])]
noncomputable def n72 : FInfo := ⟨bodyOf Tryz.f72, [.tmp 6], [23]⟩
theorem i72 : finfo Tryz.prog 72 d72 = some n72 := finfo_at Tryz.func72 rfl (by kernel_rfl) (by kernel_rfl)
noncomputable def c6 : CallP := orC 72 (fun xs => bodyP Tryz.prog inl c5 q0 100 d72 n72 xs) c5
theorem c6_ok : CpOK Tryz.prog c6 := orC_ok c5_ok fun args r h => bodyP_ok mixed c5_ok q0_ok i72 h
/-! 41: lattice/soft.Add -/
def d41 : List (Nat × List Nat) := [(0, [4]), (0, []), (0, [0, 1, 5, 6, 7])]
noncomputable def n41 : FInfo := ⟨bodyOf Tryz.f41, [.tmp 4], [23]⟩
theorem i41 : finfo Tryz.prog 41 d41 = some n41 := finfo_at Tryz.func41 rfl (by kernel_rfl) (by kernel_rfl)
noncomputable def c7 : CallP := orC 41 (fun xs => bodyP Tryz.prog inl c6 q0 100 d41 n41 xs) c6
theorem c7_ok : CpOK Tryz.prog c7 := orC_ok c6_ok fun args r h => bodyP_ok mixed c6_ok q0_ok i41 h
/-! 73: lattice/soft.MulBy -/
def d73 : List (Nat × List Nat) := [(0, [6]), (0, []), (0, [1, 2, 10, 11, 12, 13]), (0, []), (0, [14, 15, 16, 17, 18]), (0, []), (0, [20, 21, 22, 23, 24, 25, 26, 27, 28, 29, 30, 31, 32, 33, 34, 35, 36, 37, 38, 39, 40, 41, 42, 43, 44, 45, 46, 47, 48, 49, 50, 51, 52, 53]), (0, []), (0, []), (0, []), (0, [55, 56, 57, 58, 59, 60]), (0, []), (0, [61, 62, 63]), (0, []), (0, [0, 7, 8, 9, 64, 65, 66, 67, 68, 69, 70, 71, 72, 73, 74, 75, 76])]
noncomputable def n73 : FInfo := ⟨bodyOf Tryz.f73, [.tmp 6], [23]⟩
theorem i73 : finfo Tryz.prog 73 d73 = some n73 := finfo_at Tryz.func73 rfl (by kernel_rfl) (by kernel_rfl)
noncomputable def c8 : CallP := orC 73 (fun xs => bodyP Tryz.prog inl c7 q0 100 d73 n73 xs) c7
theorem c8_ok : CpOK Tryz.prog c8 := orC_ok c7_ok fun args r h => bodyP_ok mixed c7_ok q0_ok i73 h
/-! 42: lattice/soft.Mul -/
def d42 : List (Nat × List Nat) := [(0, [4]), (0, []), (0, [0, 1, 5, 6, 7])]
noncomputable def n42 : FInfo := ⟨bodyOf Tryz.f42, [.tmp 4], [23]⟩
theorem i42 : finfo Tryz.prog 42 d42 = some n42 := finfo_at Tryz.func42 rfl (by kernel_rfl) (by kernel_rfl)
noncomputable def c9 : CallP := orC 42 (fun xs => bodyP Tryz.prog inl c8 q0 100 d42 n42 xs) c8
theorem c9_ok : CpOK Tryz.prog c9 := orC_ok c8_ok fun args r h => bodyP_ok mixed c8_ok q0_ok i42 h
/-! 21: (*lattice/conv.work).sum -/
def d21 : List (Nat × List Nat) := [(0, [10]), (0, [0, 2, 3, 4, 11, 12, 13, 14, 62, 63]), (21922524559963543773075079531372811379237376136256, [25, 26, 27, 28, 29, 30, 31, 32, 33, 34, 35, 36]), (0, []), (0, [37, 38, 39, 40]), (0, [16, 17, 79, 80]), (22, [1, 41, 42, 43, 44, 45, 46, 47, 48, 49, 50, 51, 52, 53, 54, 55, 56, 57, 58, 59, 60, 61]), (0, [18, 19]), (0, []), (0, [18, 19, 99, 100]), (0, []), (0, [21, 22]), (0, []), (0, []), (0, [65]), (0, []), (0, [66, 67, 68, 69, 70, 71, 72, 73, 74]), (0, []), (0, [75, 76, 77, 78]), (0, []), (0, []), (0, []), (0, [82]), (0, []), (0, [83, 84, 85, 86, 87, 88, 89, 90, 91, 92]), (0, []), (0, [20, 93]), (0, []), (0, [95, 96, 97, 98]), (0, []), (0, []), (0, []), (0, [102]), (0, []), (0, [103, 104, 105, 106, 107, 108, 109, 110, 111, 112]), (0, []), (0, [23, 113]), (0, []), (22, [21, 115, 116, 117, 118, 119, 120, 121, 122, 123, 124, 125, 126, 127, 128, 129, 130, 131, 132, 133, 134, 135]), (0, []), (24, [22, 24, 136, 137, 138, 139, 140, 141, 142, 143, 144, 145, 146, 147, 148, 149, 150, 151, 152, 153, 154, 155, 156, 157, 158]), (0, []), (0, [159]), (0, []), (0, [160]), (0, []), (0, [161]), (0, []), (0, [15, 162])]
noncomputable def n21 : FInfo := ⟨bodyOf Tryz.f21, [.tmp 10], [23]⟩
theorem i21 : finfo Tryz.prog 21 d21 = some n21 := finfo_at Tryz.func21 rfl (by kernel_rfl) (by kernel_rfl)
noncomputable def c10 : CallP := orC 21 (fun xs => bodyP Tryz.prog inl c9 q0 100 d21 n21 xs) c9
theorem c10_ok : CpOK Tryz.prog c10 := orC_ok c9_ok fun args r h => bodyP_ok mixed c9_ok q0_ok i21 h
/-! 61: lattice/conv.number -/
def d61 : List (Nat × List Nat) := [(0, [6]), (0, []), (0, [7, 8]), (0, []), (0, [10]), (0, []), (0, [0, 1, 2, 11, 12, 13, 14])]
noncomputable def n61 : FInfo := ⟨bodyOf Tryz.f61, [.tmp 6], [3]⟩
theorem i61 : finfo Tryz.prog 61 d61 = some n61 := finfo_at Tryz.func61 rfl (by kernel_rfl) (by kernel_rfl)
noncomputable def c11 : CallP := orC 61 (fun xs => bodyP Tryz.prog inl c10 q0 100 d61 n61 xs) c10
theorem c11_ok : CpOK Tryz.prog c11 := orC_ok c10_ok fun args r h => bodyP_ok mixed c10_ok q0_ok i61 h
/-! 58: lattice/shape.Size$1 -/
def d58 : List (Nat × List Nat) := [(0, [2]), (0, []), (0, [0, 3, 4])]
noncomputable def n58 : FInfo := ⟨bodyOf Tryz.f58, [.tmp 2], [4]⟩
theorem i58 : finfo Tryz.prog 58 d58 = some n58 := finfo_at Tryz.func58 rfl (by kernel_rfl) (by kernel_rfl)
noncomputable def c12 : CallP := orC 58 (fun xs => bodyP Tryz.prog inl c11 q0 100 d58 n58 xs) c11
theorem c12_ok : CpOK Tryz.prog c12 := orC_ok c11_ok fun args r h => bodyP_ok mixed c11_ok q0_ok i58 h
/-! 59: lattice/shape.Size$2 -/
def d59 : List (Nat × List Nat) := [(0, [2]), (0, []), (0, [0, 3, 4])]
noncomputable def n59 : FInfo := ⟨bodyOf Tryz.f59, [.tmp 2], [4]⟩
theorem i59 : finfo Tryz.prog 59 d59 = some n59 := finfo_at Tryz.func59 rfl (by kernel_rfl) (by kernel_rfl)
noncomputable def c13 : CallP := orC 59 (fun xs => bodyP Tryz.prog inl c12 q0 100 d59 n59 xs) c12
theorem c13_ok : CpOK Tryz.prog c13 := orC_ok c12_ok fun args r h => bodyP_ok mixed c12_ok q0_ok i59 h
/-! 108: lattice/infer.ranged$1 -/
def d108 : List (Nat × List Nat) := [(0, [3]), (0, []), (0, [0, 1, 4, 5, 6, 7, 8, 9, 10])]
noncomputable def n108 : FInfo := ⟨bodyOf Tryz.f108, [.tmp 3], [4]⟩
theorem i108 : finfo Tryz.prog 108 d108 = some n108 := finfo_at Tryz.func108 rfl (by kernel_rfl) (by kernel_rfl)
noncomputable def c14 : CallP := orC 108 (fun xs => bodyP Tryz.prog inl c13 q0 100 d108 n108 xs) c13
theorem c14_ok : CpOK Tryz.prog c14 := orC_ok c13_ok fun args r h => bodyP_ok mixed c13_ok q0_ok i108 h
/-! 77: slices.IndexFunc[[]int,int] -/
def d77 : List (Nat × List Nat) := [(0, [4]), (0, [0, 1, 7, 8]), (0, [6]), (0, [5]), (0, []), (0, []), (0, [10]), (0, []), (0, [11, 12, 13, 14, 15]), (0, []), (0, [17]), (0, []), (0, [18]), (0, []), (0, [])]
noncomputable def n77 : FInfo := ⟨bodyOf Tryz.f77, [.tmp 4], [3]⟩
theorem i77 : finfo Tryz.prog 77 d77 = some n77 := finfo_at Tryz.func77 rfl (by kernel_rfl) (by kernel_rfl)
noncomputable def c15 : CallP := orC 77 (fun xs => bodyP Tryz.prog inl c14 q0 100 d77 n77 xs) c14
theorem c15_ok : CpOK Tryz.prog c15 := orC_ok c14_ok fun args r h => bodyP_ok mixed c14_ok q0_ok i77 h
/-! 57: slices.ContainsFunc[[]int,int] -/
def d57 : List (Nat × List Nat) := [(0, [4]), (0, []), (0, [0, 1, 5, 6, 7, 8])]
noncomputable def n57 : FInfo := ⟨bodyOf Tryz.f57, [.tmp 4], [4]⟩
theorem i57 : finfo Tryz.prog 57 d57 = some n57 := finfo_at Tryz.func57 rfl (by kernel_rfl) (by kernel_rfl)
noncomputable def c16 : CallP := orC 57 (fun xs => bodyP Tryz.prog inl c15 q0 100 d57 n57 xs) c15
theorem c16_ok : CpOK Tryz.prog c16 := orC_ok c15_ok fun args r h => bodyP_ok mixed c15_ok q0_ok i57 h
/-! 79: lattice/infer.ranged -/
def d79 : List (Nat × List Nat) := [(0, [0, 4]), (0, []), (0, [1, 2, 5, 6, 7, 8])]
noncomputable def n79 : FInfo := ⟨bodyOf Tryz.f79, [.tmp 4], [4]⟩
theorem i79 : finfo Tryz.prog 79 d79 = some n79 := finfo_at Tryz.func79 rfl (by kernel_rfl) (by kernel_rfl)
noncomputable def c17 : CallP := orC 79 (fun xs => bodyP Tryz.prog inl c16 q0 100 d79 n79 xs) c16
theorem c17_ok : CpOK Tryz.prog c17 := orC_ok c16_ok fun args r h => bodyP_ok mixed c16_ok q0_ok i79 h
/-! 62: lattice/infer.Window -/
def d62 : List (Nat × List Nat) := [(0, [16, 17, 18]), (0, [6, 43, 44]), (0, [24, 25, 26, 27, 28, 29, 30, 31, 32, 33, 34, 35, 36]), (0, []), (0, []), (0, []), (0, [1, 3, 38, 39, 40, 41, 42]), (0, []), (0, []), (0, []), (0, [45]), (0, []), (0, [46]), (0, []), (0, [47, 48, 49, 50, 51, 52]), (0, []), (0, [53]), (0, []), (0, []), (0, []), (0, [55, 56, 57, 58, 59, 60, 61, 62, 63]), (0, []), (0, [64]), (0, []), (0, [66, 67]), (0, []), (0, [20, 21, 68, 69, 70]), (0, []), (0, [72]), (0, []), (0, []), (0, []), (0, [5, 19, 73, 74, 75, 76, 77, 78, 79]), (0, []), (0, [80]), (0, []), (0, []), (0, []), (0, [82, 83, 84, 85]), (0, []), (0, [0, 2, 7, 22, 86, 87, 88, 89, 90, 91, 92, 93, 94, 95, 96, 97, 98, 99, 100]), (0, []), (0, [102, 103]), (0, []), (0, [4, 23, 104, 105]), (0, []), (0, []), (0, []), (0, []), (0, []), (0, []), (0, []), (0, []), (0, []), (0, []), (0, []), (0, []), (0, []), (0, []), (0, []), (0, []), (0, []), (0, []), (0, []), (0, []), (0, []), (0, []), (0, []), (0, []), (0, []), (0, []), (0, []), (0, []), (0, []), (0, []), (0, []), (0, []), (0, []), (0, []), (0, []), (0, []), (0, []), (0, []), (0, []), (0, []), (0, []), (0, []), (0, []), (0, []), (1, [])]
noncomputable def n62 : FInfo := ⟨bodyOf Tryz.f62, [.tmp 16, .tmp 17, .tmp 18], [3, 3, 32]⟩
theorem i62 : finfo Tryz.prog 62 d62 = some n62 := finfo_at Tryz.func62 rfl (by kernel_rfl) (by kernel_rfl)
noncomputable def c18 : CallP := orC 62 (fun xs => bodyP Tryz.prog inl c17 q0 100 d62 n62 xs) c17
theorem c18_ok : CpOK Tryz.prog c18 := orC_ok c17_ok fun args r h => bodyP_ok mixed c17_ok q0_ok i62 h
/-! 32: lattice/conv.axisOf -/
def d32 : List (Nat × List Nat) := [(0, [0, 9]), (0, []), (12, [12, 13, 14, 15, 16, 17, 18, 19, 20, 21, 22]), (0, []), (0, [11]), (0, []), (40922045845265281912527271352572628789838705755264, [1, 2, 3, 4, 23, 24, 25, 26, 27, 28, 29, 30, 31, 32, 33, 34, 35, 36, 37, 38, 39, 40, 41, 42, 43, 44, 45, 46, 47, 48]), (0, []), (0, [10, 11, 49, 50])]
noncomputable def n32 : FInfo := ⟨bodyOf Tryz.f32, [.cell 8 63, .tmp 9], [63, 32]⟩
theorem i32 : finfo Tryz.prog 32 d32 = some n32 := finfo_at Tryz.func32 rfl (by kernel_rfl) (by kernel_rfl)
noncomputable def c19 : CallP := orC 32 (fun xs => bodyP Tryz.prog inl c18 q0 100 d32 n32 xs) c18
theorem c19_ok : CpOK Tryz.prog c19 := orC_ok c18_ok fun args r h => bodyP_ok mixed c18_ok q0_ok i32 h
/-! 34: lattice/conv.Has -/
def d34 : List (Nat × List Nat) := [(0, [2]), (0, []), (0, [0, 3, 4])]
noncomputable def n34 : FInfo := ⟨bodyOf Tryz.f34, [.tmp 2], [4]⟩
theorem i34 : finfo Tryz.prog 34 d34 = some n34 := finfo_at Tryz.func34 rfl (by kernel_rfl) (by kernel_rfl)
noncomputable def c20 : CallP := orC 34 (fun xs => bodyP Tryz.prog inl c19 q0 100 d34 n34 xs) c19
theorem c20_ok : CpOK Tryz.prog c20 := orC_ok c19_ok fun args r h => bodyP_ok mixed c19_ok q0_ok i34 h
/-! 78: slices.Index[[]int,int] -/
def d78 : List (Nat × List Nat) := [(0, [4]), (0, [0, 1, 7, 8]), (0, [6]), (0, [5]), (0, []), (0, []), (0, [10]), (0, []), (0, [11, 12, 13, 14, 15]), (0, []), (0, [17]), (0, []), (0, [18]), (0, []), (0, [])]
noncomputable def n78 : FInfo := ⟨bodyOf Tryz.f78, [.tmp 4], [3]⟩
theorem i78 : finfo Tryz.prog 78 d78 = some n78 := finfo_at Tryz.func78 rfl (by kernel_rfl) (by kernel_rfl)
noncomputable def c21 : CallP := orC 78 (fun xs => bodyP Tryz.prog inl c20 q0 100 d78 n78 xs) c20
theorem c21_ok : CpOK Tryz.prog c21 := orC_ok c20_ok fun args r h => bodyP_ok mixed c20_ok q0_ok i78 h
/-! 60: slices.Contains[[]int,int] -/
def d60 : List (Nat × List Nat) := [(0, [4]), (0, []), (0, [0, 1, 5, 6, 7, 8])]
noncomputable def n60 : FInfo := ⟨bodyOf Tryz.f60, [.tmp 4], [4]⟩
theorem i60 : finfo Tryz.prog 60 d60 = some n60 := finfo_at Tryz.func60 rfl (by kernel_rfl) (by kernel_rfl)
noncomputable def c22 : CallP := orC 60 (fun xs => bodyP Tryz.prog inl c21 q0 100 d60 n60 xs) c21
theorem c22_ok : CpOK Tryz.prog c22 := orC_ok c21_ok fun args r h => bodyP_ok mixed c21_ok q0_ok i60 h
/-! 30: lattice/shape.Size -/
def d30 : List (Nat × List Nat) := [(0, [2, 3]), (0, [18, 19, 20]), (0, [7]), (0, []), (0, []), (0, []), (0, [9, 10, 11, 12, 13, 14]), (0, []), (0, []), (0, []), (0, [16]), (0, []), (0, []), (0, []), (0, []), (0, []), (0, [0]), (0, []), (0, []), (0, []), (0, [22, 23]), (0, []), (0, [24, 25, 26]), (0, []), (0, []), (0, []), (0, [6, 28, 29, 30]), (0, []), (0, [31]), (0, []), (0, [4, 32])]
noncomputable def n30 : FInfo := ⟨bodyOf Tryz.f30, [.tmp 2, .tmp 3], [3, 32]⟩
theorem i30 : finfo Tryz.prog 30 d30 = some n30 := finfo_at Tryz.func30 rfl (by kernel_rfl) (by kernel_rfl)
noncomputable def c23 : CallP := orC 30 (fun xs => bodyP Tryz.prog inl c22 q0 100 d30 n30 xs) c22
theorem c23_ok : CpOK Tryz.prog c23 := orC_ok c22_ok fun args r h => bodyP_ok mixed c22_ok q0_ok i30 h
/-! 80: lattice/tens.Width -/
def d80 : List (Nat × List Nat) := [(0, [2]), (0, [3]), (0, [0]), (0, []), (0, [5]), (0, []), (0, []), (0, []), (0, [7]), (0, []), (0, []), (0, []), (0, [9]), (0, []), (0, []), (0, []), (0, [])]
noncomputable def n80 : FInfo := ⟨bodyOf Tryz.f80, [.tmp 2], [3]⟩
theorem i80 : finfo Tryz.prog 80 d80 = some n80 := finfo_at Tryz.func80 rfl (by kernel_rfl) (by kernel_rfl)
noncomputable def c24 : CallP := orC 80 (fun xs => bodyP Tryz.prog inl c23 q0 100 d80 n80 xs) c23
theorem c24_ok : CpOK Tryz.prog c24 := orC_ok c23_ok fun args r h => bodyP_ok mixed c23_ok q0_ok i80 h
/-! 63: lattice/tens.known -/
def d63 : List (Nat × List Nat) := [(0, [2]), (0, []), (0, [0, 3, 4, 5])]
noncomputable def n63 : FInfo := ⟨bodyOf Tryz.f63, [.tmp 2], [4]⟩
theorem i63 : finfo Tryz.prog 63 d63 = some n63 := finfo_at Tryz.func63 rfl (by kernel_rfl) (by kernel_rfl)
noncomputable def c25 : CallP := orC 63 (fun xs => bodyP Tryz.prog inl c24 q0 100 d63 n63 xs) c24
theorem c25_ok : CpOK Tryz.prog c25 := orC_ok c24_ok fun args r h => bodyP_ok mixed c24_ok q0_ok i63 h
/-! 35: lattice/tens.Check -/
def d35 : List (Nat × List Nat) := [(0, [0, 2]), (0, [23]), (0, [6, 7, 8]), (0, []), (0, []), (0, []), (0, [10, 11, 12, 13, 14, 15]), (0, []), (0, [16]), (0, []), (0, [18]), (0, []), (0, [4, 19, 20, 21]), (0, []), (0, [22]), (0, []), (0, [25]), (0, []), (0, [26, 27, 28]), (0, []), (0, [30]), (0, []), (0, [31, 32, 33]), (0, []), (0, [1, 3, 5, 34, 35, 36, 37, 38, 39, 40, 41, 42, 43, 44, 45, 46, 47, 48, 49, 50]), (0, []), (0, []), (0, []), (0, [])]
noncomputable def n35 : FInfo := ⟨bodyOf Tryz.f35, [.tmp 2], [32]⟩
theorem i35 : finfo Tryz.prog 35 d35 = some n35 := finfo_at Tryz.func35 rfl (by kernel_rfl) (by kernel_rfl)
noncomputable def c26 : CallP := orC 35 (fun xs => bodyP Tryz.prog inl c25 q0 100 d35 n35 xs) c25
theorem c26_ok : CpOK Tryz.prog c26 := orC_ok c25_ok fun args r h => bodyP_ok mixed c25_ok q0_ok i35 h
/-! 81: lattice/tens.own[int] -/
def d81 : List (Nat × List Nat) := [(0, [2]), (0, []), (0, [0, 3, 4, 5])]
noncomputable def n81 : FInfo := ⟨bodyOf Tryz.f81, [.tmp 2], [22]⟩
theorem i81 : finfo Tryz.prog 81 d81 = some n81 := finfo_at Tryz.func81 rfl (by kernel_rfl) (by kernel_rfl)
noncomputable def c27 : CallP := orC 81 (fun xs => bodyP Tryz.prog inl c26 q0 100 d81 n81 xs) c26
theorem c27_ok : CpOK Tryz.prog c27 := orC_ok c26_ok fun args r h => bodyP_ok mixed c26_ok q0_ok i81 h
/-! 82: lattice/tens.own[uint32] -/
def d82 : List (Nat × List Nat) := [(0, [2]), (0, []), (0, [0, 3, 4, 5])]
noncomputable def n82 : FInfo := ⟨bodyOf Tryz.f82, [.tmp 2], [24]⟩
theorem i82 : finfo Tryz.prog 82 d82 = some n82 := finfo_at Tryz.func82 rfl (by kernel_rfl) (by kernel_rfl)
noncomputable def c28 : CallP := orC 82 (fun xs => bodyP Tryz.prog inl c27 q0 100 d82 n82 xs) c27
theorem c28_ok : CpOK Tryz.prog c28 := orC_ok c27_ok fun args r h => bodyP_ok mixed c27_ok q0_ok i82 h
/-! 83: lattice/tens.own[int64] -/
def d83 : List (Nat × List Nat) := [(0, [2]), (0, []), (0, [0, 3, 4, 5])]
noncomputable def n83 : FInfo := ⟨bodyOf Tryz.f83, [.tmp 2], [25]⟩
theorem i83 : finfo Tryz.prog 83 d83 = some n83 := finfo_at Tryz.func83 rfl (by kernel_rfl) (by kernel_rfl)
noncomputable def c29 : CallP := orC 83 (fun xs => bodyP Tryz.prog inl c28 q0 100 d83 n83 xs) c28
theorem c29_ok : CpOK Tryz.prog c29 := orC_ok c28_ok fun args r h => bodyP_ok mixed c28_ok q0_ok i83 h
/-! 84: lattice/tens.own[bool] -/
def d84 : List (Nat × List Nat) := [(0, [2]), (0, []), (0, [0, 3, 4, 5])]
noncomputable def n84 : FInfo := ⟨bodyOf Tryz.f84, [.tmp 2], [26]⟩
theorem i84 : finfo Tryz.prog 84 d84 = some n84 := finfo_at Tryz.func84 rfl (by kernel_rfl) (by kernel_rfl)
noncomputable def c30 : CallP := orC 84 (fun xs => bodyP Tryz.prog inl c29 q0 100 d84 n84 xs) c29
theorem c30_ok : CpOK Tryz.prog c30 := orC_ok c29_ok fun args r h => bodyP_ok mixed c29_ok q0_ok i84 h
/-! 64: lattice/tens.Copy -/
def d64 : List (Nat × List Nat) := [(0, [0]), (0, []), (15, [1, 3, 4, 5, 6, 7, 8, 9, 10, 11, 12, 13, 14, 15, 16, 17])]
noncomputable def n64 : FInfo := ⟨bodyOf Tryz.f64, [.cell 2 28], [28]⟩
theorem i64 : finfo Tryz.prog 64 d64 = some n64 := finfo_at Tryz.func64 rfl (by kernel_rfl) (by kernel_rfl)
noncomputable def c31 : CallP := orC 64 (fun xs => bodyP Tryz.prog inl c30 q0 100 d64 n64 xs) c30
theorem c31_ok : CpOK Tryz.prog c31 := orC_ok c30_ok fun args r h => bodyP_ok mixed c30_ok q0_ok i64 h
/-! 109: lattice/soft.Abs -/
def d109 : List (Nat × List Nat) := [(0, [2]), (0, []), (0, [0, 3, 4])]
noncomputable def n109 : FInfo := ⟨bodyOf Tryz.f109, [.tmp 2], [23]⟩
theorem i109 : finfo Tryz.prog 109 d109 = some n109 := finfo_at Tryz.func109 rfl (by kernel_rfl) (by kernel_rfl)
noncomputable def c32 : CallP := orC 109 (fun xs => bodyP Tryz.prog inl c31 q0 100 d109 n109 xs) c31
theorem c32_ok : CpOK Tryz.prog c32 := orC_ok c31_ok fun args r h => bodyP_ok mixed c31_ok q0_ok i109 h
/-! 85: lattice/soft.NaN -/
def d85 : List (Nat × List Nat) := [(0, [2]), (0, []), (0, [0, 3, 4, 5])]
noncomputable def n85 : FInfo := ⟨bodyOf Tryz.f85, [.tmp 2], [4]⟩
theorem i85 : finfo Tryz.prog 85 d85 = some n85 := finfo_at Tryz.func85 rfl (by kernel_rfl) (by kernel_rfl)
noncomputable def c33 : CallP := orC 85 (fun xs => bodyP Tryz.prog inl c32 q0 100 d85 n85 xs) c32
theorem c33_ok : CpOK Tryz.prog c33 := orC_ok c32_ok fun args r h => bodyP_ok mixed c32_ok q0_ok i85 h
/-! 65: lattice/soft.Canon -/
def d65 : List (Nat × List Nat) := [(0, [2]), (0, []), (0, [3]), (0, []), (0, []), (0, []), (0, [0, 5])]
noncomputable def n65 : FInfo := ⟨bodyOf Tryz.f65, [.tmp 2], [23]⟩
theorem i65 : finfo Tryz.prog 65 d65 = some n65 := finfo_at Tryz.func65 rfl (by kernel_rfl) (by kernel_rfl)
noncomputable def c34 : CallP := orC 65 (fun xs => bodyP Tryz.prog inl c33 q0 100 d65 n65 xs) c33
theorem c34_ok : CpOK Tryz.prog c34 := orC_ok c33_ok fun args r h => bodyP_ok mixed c33_ok q0_ok i65 h
/-! 36: lattice/tens.Canon -/
def d36 : List (Nat × List Nat) := [(0, [0]), (0, [9, 10, 11]), (0, [1, 6, 7]), (0, []), (0, [8]), (0, []), (0, []), (0, []), (0, [13, 14, 15]), (0, []), (6, [4, 5, 16, 17, 18, 19, 20, 21]), (0, []), (0, [22]), (0, []), (0, [3, 23])]
noncomputable def n36 : FInfo := ⟨bodyOf Tryz.f36, [.cell 2 28], [28]⟩
theorem i36 : finfo Tryz.prog 36 d36 = some n36 := finfo_at Tryz.func36 rfl (by kernel_rfl) (by kernel_rfl)
noncomputable def c35 : CallP := orC 36 (fun xs => bodyP Tryz.prog inl c34 q0 100 d36 n36 xs) c34
theorem c35_ok : CpOK Tryz.prog c35 := orC_ok c34_ok fun args r h => bodyP_ok mixed c34_ok q0_ok i36 h
/-! 166: slices.Grow[[]lattice/ops.row,lattice/ops.row] -/
def d166 : List (Nat × List Nat) := [(0, [4]), (0, []), (0, [5]), (0, []), (0, [7]), (0, []), (0, [8, 9, 10, 11, 12, 13, 14]), (0, []), (0, [15]), (0, []), (0, [17, 18, 19, 20, 21, 22, 23, 24, 25]), (0, []), (0, [0, 1, 26, 6000004])]
noncomputable def n166 : FInfo := ⟨bodyOf Tryz.f166, [.tmp 4], [149]⟩
theorem i166 : finfo Tryz.prog 166 d166 = some n166 := finfo_at Tryz.func166 rfl (by kernel_rfl) (by kernel_rfl)
noncomputable def q1 : CallI := ciE Tryz.prog inl c35 q0 100 166 d166 n166 q0
theorem q1_ok : CiOK Tryz.prog q1 := ciE_ok mixed c35_ok q0_ok i166 q0_ok
/-! 158: slices.Concat[[]lattice/ops.row,lattice/ops.row] -/
def d158 : List (Nat × List Nat) := [(0, [2]), (0, [9, 10, 11]), (0, []), (0, []), (0, []), (0, [25, 26, 27]), (0, []), (0, []), (0, [13, 14]), (0, []), (0, [5, 15, 16, 17, 18]), (0, []), (0, [19]), (0, []), (0, [21]), (0, []), (0, [22]), (0, []), (0, [3, 23, 24, 3000000006]), (0, []), (0, [0]), (0, []), (0, []), (0, []), (0, [29, 30]), (0, []), (0, [8, 31, 32, 33]), (0, []), (0, [34]), (0, []), (0, [6, 35])]
noncomputable def n158 : FInfo := ⟨bodyOf Tryz.f158, [.tmp 2], [149]⟩
theorem i158 : finfo Tryz.prog 158 d158 = some n158 := finfo_at Tryz.func158 rfl (by kernel_rfl) (by kernel_rfl)
noncomputable def c36 : CallP := orC 158 (fun xs => bodyP Tryz.prog inl c35 q1 100 d158 n158 xs) c35
theorem c36_ok : CpOK Tryz.prog c36 := orC_ok c35_ok fun args r h => bodyP_ok mixed c35_ok q1_ok i158 h
/-! 159: lattice/ops.each -/
def d159 : List (Nat × List Nat) := [(0, [0]), (0, []), (0, [1, 2, 3, 4, 5, 6, 7, 8, 9, 10, 11, 12, 13, 14, 15, 16, 17, 18, 19, 20, 21, 22, 23, 24, 25, 26, 27, 28, 29, 30, 31, 32, 33, 34, 35, 36, 37, 38, 39, 40, 41, 42, 43, 44, 45])]
noncomputable def n159 : FInfo := ⟨bodyOf Tryz.f159, [.tmp 0], [149]⟩
theorem i159 : finfo Tryz.prog 159 d159 = some n159 := finfo_at Tryz.func159 rfl (by kernel_rfl) (by kernel_rfl)
noncomputable def c37 : CallP := orC 159 (fun xs => bodyP Tryz.prog inl c36 q1 100 d159 n159 xs) c36
theorem c37_ok : CpOK Tryz.prog c37 := orC_ok c36_ok fun args r h => bodyP_ok mixed c36_ok q1_ok i159 h
/-! 160: lattice/ops.moves -/
def d160 : List (Nat × List Nat) := [(0, [0]), (0, []), (0, [1, 2, 3, 4, 5, 6, 7, 8, 9, 10, 11, 12, 13, 14, 15, 16, 17, 18, 19, 20, 21])]
noncomputable def n160 : FInfo := ⟨bodyOf Tryz.f160, [.tmp 0], [149]⟩
theorem i160 : finfo Tryz.prog 160 d160 = some n160 := finfo_at Tryz.func160 rfl (by kernel_rfl) (by kernel_rfl)
noncomputable def c38 : CallP := orC 160 (fun xs => bodyP Tryz.prog inl c37 q1 100 d160 n160 xs) c37
theorem c38_ok : CpOK Tryz.prog c38 := orC_ok c37_ok fun args r h => bodyP_ok mixed c37_ok q1_ok i160 h
/-! 161: lattice/ops.others -/
def d161 : List (Nat × List Nat) := [(0, [0]), (0, []), (0, [1, 2, 3, 4, 5, 6, 7, 8, 9, 10, 11, 12, 13, 14, 15, 16, 17])]
noncomputable def n161 : FInfo := ⟨bodyOf Tryz.f161, [.tmp 0], [149]⟩
theorem i161 : finfo Tryz.prog 161 d161 = some n161 := finfo_at Tryz.func161 rfl (by kernel_rfl) (by kernel_rfl)
noncomputable def c39 : CallP := orC 161 (fun xs => bodyP Tryz.prog inl c38 q1 100 d161 n161 xs) c38
theorem c39_ok : CpOK Tryz.prog c39 := orC_ok c38_ok fun args r h => bodyP_ok mixed c38_ok q1_ok i161 h
/-! 148: lattice/ops.table -/
def d148 : List (Nat × List Nat) := [(0, [0]), (0, []), (0, [1, 2, 3, 4, 5])]
noncomputable def n148 : FInfo := ⟨bodyOf Tryz.f148, [.tmp 0], [149]⟩
theorem i148 : finfo Tryz.prog 148 d148 = some n148 := finfo_at Tryz.func148 rfl (by kernel_rfl) (by kernel_rfl)
noncomputable def c40 : CallP := orC 148 (fun xs => bodyP Tryz.prog inl c39 q1 100 d148 n148 xs) c39
theorem c40_ok : CpOK Tryz.prog c40 := orC_ok c39_ok fun args r h => bodyP_ok mixed c39_ok q1_ok i148 h
/-! 110: lattice/ops.find -/
def d110 : List (Nat × List Nat) := [(0, []), (0, []), (0, [3, 4, 5, 6, 7]), (0, []), (0, [9]), (0, []), (0, [0, 10, 11, 12, 13, 14])]
noncomputable def n110 : FInfo := ⟨bodyOf Tryz.f110, [.cell 2 126], [126]⟩
theorem i110 : finfo Tryz.prog 110 d110 = some n110 := finfo_at Tryz.func110 rfl (by kernel_rfl) (by kernel_rfl)
noncomputable def c41 : CallP := orC 110 (fun xs => bodyP Tryz.prog inl c40 q1 100 d110 n110 xs) c40
theorem c41_ok : CpOK Tryz.prog c41 := orC_ok c40_ok fun args r h => bodyP_ok mixed c40_ok q1_ok i110 h
/-! 86: lattice/ops.Arity -/
def d86 : List (Nat × List Nat) := [(0, [2, 3, 4, 5]), (0, []), (0, [0, 7, 8]), (0, []), (12, [6, 9, 10, 11, 12, 13, 14, 15, 16])]
noncomputable def n86 : FInfo := ⟨bodyOf Tryz.f86, [.tmp 2, .tmp 3, .tmp 4, .tmp 5], [3, 3, 3, 3]⟩
theorem i86 : finfo Tryz.prog 86 d86 = some n86 := finfo_at Tryz.func86 rfl (by kernel_rfl) (by kernel_rfl)
noncomputable def k86 : List AV → Option AV := fun xs => bodyP Tryz.prog inl c41 q1 100 d86 n86 xs
def a86_0 : List AV := [.v (.int .i64 75)]
def r86_0 : AV := .tuple [.v (.int .i64 2), .v (.int .i64 3), .v (.int .i64 1), .v (.int .i64 1)]
theorem p86_0 : k86 a86_0 = some r86_0 := by kernel_rfl
noncomputable def z86 : List AV → Option AV := fun xs => if sameL (sameA 8) xs a86_0 = true then some r86_0 else k86 xs
noncomputable def c42 : CallP := orC 86 z86 c41
theorem k86_ok (args : List AV) (r : AV) (h : k86 args = some r) : PureOK Tryz.prog 86 args r := by
  unfold k86 at h
  exact bodyP_ok mixed c41_ok q1_ok i86 h
theorem c42_ok : CpOK Tryz.prog c42 := orC_ok c41_ok fun args r h => by
  unfold z86 at h
  by_cases h0 : sameL (sameA 8) args a86_0 = true
  · rw [if_pos h0] at h; injection h with h; subst h; rw [sameL_eq (sameA_eq 8) h0]; exact k86_ok _ _ p86_0
  rw [if_neg h0] at h
  exact k86_ok _ _ h
/-! 103: (lattice/infer.ask).val -/
def d103 : List (Nat × List Nat) := [(0, [0]), (0, []), (0, [5, 6, 7, 8]), (0, []), (0, [10, 11, 12, 13, 14]), (0, []), (0, [1, 2, 15])]
noncomputable def n103 : FInfo := ⟨bodyOf Tryz.f103, [.cell 4 78], [78]⟩
theorem i103 : finfo Tryz.prog 103 d103 = some n103 := finfo_at Tryz.func103 rfl (by kernel_rfl) (by kernel_rfl)
noncomputable def c43 : CallP := orC 103 (fun xs => bodyP Tryz.prog inl c42 q1 100 d103 n103 xs) c42
theorem c43_ok : CpOK Tryz.prog c43 := orC_ok c42_ok fun args r h => bodyP_ok mixed c42_ok q1_ok i103 h
/-! 87: (lattice/infer.ask).has -/
def d87 : List (Nat × List Nat) := [(0, [0, 4]), (0, []), (0, [1, 2, 5, 6, 7, 8, 9])]
noncomputable def n87 : FInfo := ⟨bodyOf Tryz.f87, [.tmp 4], [4]⟩
theorem i87 : finfo Tryz.prog 87 d87 = some n87 := finfo_at Tryz.func87 rfl (by kernel_rfl) (by kernel_rfl)
noncomputable def c44 : CallP := orC 87 (fun xs => bodyP Tryz.prog inl c43 q1 100 d87 n87 xs) c43
theorem c44_ok : CpOK Tryz.prog c44 := orC_ok c43_ok fun args r h => bodyP_ok mixed c43_ok q1_ok i87 h
/-! 66: (lattice/infer.ask).complete -/
def d66 : List (Nat × List Nat) := [(0, [0, 2]), (0, [1, 49, 50]), (0, [8, 9, 10, 11, 12, 13, 14, 15]), (0, []), (0, [4, 5, 6, 16, 17, 18, 19, 20, 21, 22, 23, 24, 25, 26, 27, 28, 29, 30, 31, 32, 33, 34, 35, 36, 37, 38, 39, 40, 41, 42, 43, 44, 45, 46, 47]), (0, []), (0, []), (0, []), (0, [3]), (0, []), (0, []), (0, []), (0, [52]), (0, []), (0, [7, 53, 54, 55]), (0, []), (0, []), (0, []), (0, [57]), (0, []), (0, [])]
noncomputable def n66 : FInfo := ⟨bodyOf Tryz.f66, [.tmp 2], [4]⟩
theorem i66 : finfo Tryz.prog 66 d66 = some n66 := finfo_at Tryz.func66 rfl (by kernel_rfl) (by kernel_rfl)
noncomputable def c45 : CallP := orC 66 (fun xs => bodyP Tryz.prog inl c44 q1 100 d66 n66 xs) c44
theorem c45_ok : CpOK Tryz.prog c45 := orC_ok c44_ok fun args r h => bodyP_ok mixed c44_ok q1_ok i66 h
/-! 111: lattice/infer.sorts -/
def d111 : List (Nat × List Nat) := [(0, [2]), (0, [3, 4, 13, 18, 31, 36, 45, 55]), (0, [0]), (0, []), (0, [5]), (0, []), (0, [6]), (0, []), (0, [7]), (1, []), (0, [8]), (0, []), (0, [9]), (0, []), (0, [10]), (0, []), (0, [11]), (0, []), (0, [12]), (0, []), (0, []), (0, []), (0, [14]), (0, []), (0, [15]), (0, []), (0, [16]), (1, []), (0, [17]), (0, []), (0, []), (0, []), (0, [19]), (0, []), (0, [20]), (0, []), (0, [21]), (1, []), (0, [22]), (0, []), (0, [23]), (0, []), (0, [24]), (0, []), (0, [25]), (0, []), (0, [26]), (0, []), (0, [27]), (0, []), (0, [28]), (0, []), (0, [29]), (0, []), (0, [30]), (0, []), (0, []), (0, []), (0, [32]), (0, []), (0, [33]), (0, []), (0, []), (1, []), (0, [35]), (0, []), (0, []), (0, []), (0, [37]), (0, []), (0, [38]), (0, []), (0, [39]), (1, []), (0, [40]), (0, []), (0, [41]), (0, []), (0, [42]), (0, []), (0, [43]), (0, []), (0, [44]), (0, []), (0, []), (0, []), (0, [46]), (0, []), (0, [47]), (0, []), (0, [48]), (1, []), (0, [49]), (0, []), (0, [50]), (0, []), (0, [51]), (0, []), (0, [52]), (0, []), (0, [53]), (0, []), (0, [54]), (0, []), (0, []), (0, []), (0, [56]), (0, []), (0, [57]), (0, []), (0, []), (1, []), (0, [59]), (0, []), (0, []), (0, []), (0, [61]), (0, []), (0, []), (0, []), (0, [])]
noncomputable def n111 : FInfo := ⟨bodyOf Tryz.f111, [.tmp 2], [9]⟩
theorem i111 : finfo Tryz.prog 111 d111 = some n111 := finfo_at Tryz.func111 rfl (by kernel_rfl) (by kernel_rfl)
noncomputable def c46 : CallP := orC 111 (fun xs => bodyP Tryz.prog inl c45 q1 100 d111 n111 xs) c45
theorem c46_ok : CpOK Tryz.prog c46 := orC_ok c45_ok fun args r h => bodyP_ok mixed c45_ok q1_ok i111 h
/-! 112: (lattice/infer.ask).fits -/
def d112 : List (Nat × List Nat) := [(0, [0, 6]), (0, [1, 3, 12]), (0, [8, 9, 10, 11]), (0, []), (0, [2]), (0, []), (0, [14]), (0, []), (0, [15, 16, 17, 18, 19, 20]), (0, []), (0, [22]), (0, []), (0, [23, 24]), (0, []), (0, [26]), (0, []), (0, [27, 28]), (0, []), (0, [30]), (0, []), (0, [31, 32]), (0, []), (0, [34]), (0, []), (0, [35, 36, 37, 38, 39]), (0, []), (0, [41]), (0, []), (0, [42, 43, 44, 45, 46, 47, 48]), (0, []), (0, [7, 49, 50, 51])]
noncomputable def n112 : FInfo := ⟨bodyOf Tryz.f112, [.tmp 6], [4]⟩
theorem i112 : finfo Tryz.prog 112 d112 = some n112 := finfo_at Tryz.func112 rfl (by kernel_rfl) (by kernel_rfl)
noncomputable def c47 : CallP := orC 112 (fun xs => bodyP Tryz.prog inl c46 q1 100 d112 n112 xs) c46
theorem c47_ok : CpOK Tryz.prog c47 := orC_ok c46_ok fun args r h => bodyP_ok mixed c46_ok q1_ok i112 h
/-! 88: (lattice/infer.ask).typed -/
def d88 : List (Nat × List Nat) := [(0, [0, 2]), (0, [3, 10, 11]), (0, [5, 6, 7]), (0, []), (0, [8, 9]), (0, []), (0, []), (0, []), (0, [13]), (0, []), (24, [4, 14, 15, 16, 17, 18, 19, 20, 21, 22, 23, 24, 25, 26, 27, 28, 29, 30, 31, 32, 33, 34, 35, 36]), (0, []), (0, []), (0, []), (0, [38]), (0, []), (0, [1, 39, 40, 41, 42, 43, 44, 45, 46, 47, 48, 49, 50, 51, 52, 53])]
noncomputable def n88 : FInfo := ⟨bodyOf Tryz.f88, [.tmp 2], [4]⟩
theorem i88 : finfo Tryz.prog 88 d88 = some n88 := finfo_at Tryz.func88 rfl (by kernel_rfl) (by kernel_rfl)
noncomputable def c48 : CallP := orC 88 (fun xs => bodyP Tryz.prog inl c47 q1 100 d88 n88 xs) c47
theorem c48_ok : CpOK Tryz.prog c48 := orC_ok c47_ok fun args r h => bodyP_ok mixed c47_ok q1_ok i88 h
/-! 91: (lattice/infer.ask).dims -/
def d91 : List (Nat × List Nat) := [(0, [0, 4]), (0, []), (0, [1, 2, 5, 6, 7, 8])]
noncomputable def n91 : FInfo := ⟨bodyOf Tryz.f91, [.tmp 4], [22]⟩
theorem i91 : finfo Tryz.prog 91 d91 = some n91 := finfo_at Tryz.func91 rfl (by kernel_rfl) (by kernel_rfl)
noncomputable def c49 : CallP := orC 91 (fun xs => bodyP Tryz.prog inl c48 q1 100 d91 n91 xs) c48
theorem c49_ok : CpOK Tryz.prog c49 := orC_ok c48_ok fun args r h => bodyP_ok mixed c48_ok q1_ok i91 h
/-! 113: (lattice/infer.ask).rank -/
def d113 : List (Nat × List Nat) := [(0, [0, 2]), (0, []), (0, [1, 3, 4, 5])]
noncomputable def n113 : FInfo := ⟨bodyOf Tryz.f113, [.tmp 2], [3]⟩
theorem i113 : finfo Tryz.prog 113 d113 = some n113 := finfo_at Tryz.func113 rfl (by kernel_rfl) (by kernel_rfl)
noncomputable def c50 : CallP := orC 113 (fun xs => bodyP Tryz.prog inl c49 q1 100 d113 n113 xs) c49
theorem c50_ok : CpOK Tryz.prog c50 := orC_ok c49_ok fun args r h => bodyP_ok mixed c49_ok q1_ok i113 h
/-! 117: lattice/infer.many -/
def d117 : List (Nat × List Nat) := [(0, [4]), (0, []), (0, [0, 1, 5, 6, 7, 8, 9, 10, 11, 12, 13])]
noncomputable def n117 : FInfo := ⟨bodyOf Tryz.f117, [.tmp 4], [4]⟩
theorem i117 : finfo Tryz.prog 117 d117 = some n117 := finfo_at Tryz.func117 rfl (by kernel_rfl) (by kernel_rfl)
noncomputable def c51 : CallP := orC 117 (fun xs => bodyP Tryz.prog inl c50 q1 100 d117 n117 xs) c50
theorem c51_ok : CpOK Tryz.prog c51 := orC_ok c50_ok fun args r h => bodyP_ok mixed c50_ok q1_ok i117 h
/-! 118: (lattice/infer.ask).frames -/
def d118 : List (Nat × List Nat) := [(0, [0, 2]), (0, []), (0, [1, 3, 4, 5, 6, 7, 8, 9, 10, 11, 12, 13, 14, 15, 16, 17, 18])]
noncomputable def n118 : FInfo := ⟨bodyOf Tryz.f118, [.tmp 2], [4]⟩
theorem i118 : finfo Tryz.prog 118 d118 = some n118 := finfo_at Tryz.func118 rfl (by kernel_rfl) (by kernel_rfl)
noncomputable def c52 : CallP := orC 118 (fun xs => bodyP Tryz.prog inl c51 q1 100 d118 n118 xs) c51
theorem c52_ok : CpOK Tryz.prog c52 := orC_ok c51_ok fun args r h => bodyP_ok mixed c51_ok q1_ok i118 h
/-! 89: (lattice/infer.ask).attributes -/
def d89 : List (Nat × List Nat) := [(0, [0, 2]), (0, [1, 3, 4, 17, 58, 99, 131, 164]), (5, [12, 13, 14, 15]), (0, []), (0, [16]), (0, []), (0, [19]), (0, []), (0, [20, 21, 22, 23, 24, 25, 26, 27]), (0, []), (0, [29]), (0, []), (0, [30, 31, 32, 33]), (0, []), (0, [35]), (0, []), (0, [36, 37, 38, 39, 40, 41, 42, 43, 44, 45, 46, 47, 48, 49]), (0, []), (0, [5, 50, 51, 52, 53, 54, 55, 56, 57]), (0, []), (0, [59]), (0, []), (0, [60]), (0, []), (0, [61, 62, 63, 64, 65, 66, 67, 68]), (0, []), (0, [70]), (0, []), (0, [71, 72, 73, 74, 75, 76, 77]), (0, []), (0, [6, 7, 78, 79, 80, 81, 82, 83, 84, 85, 86, 87, 88, 89, 90, 91, 92, 93, 94, 95, 96, 97, 98]), (0, []), (0, [100]), (0, []), (0, [101]), (0, []), (0, [102]), (0, []), (0, [103]), (0, []), (0, [104]), (0, []), (0, [105]), (0, []), (0, [106]), (0, []), (0, [107]), (0, []), (0, [108]), (0, []), (0, [8, 109, 110, 111, 112, 113, 114, 115]), (0, []), (0, [9, 116, 117]), (0, []), (0, [119]), (0, []), (0, [120, 121, 122, 123, 124, 125, 126, 127, 128, 129, 130]), (0, []), (0, [132]), (0, []), (0, [133]), (0, []), (0, [134]), (0, []), (0, [135]), (0, []), (0, [10, 136, 137, 138, 139, 140, 141, 142]), (0, []), (0, [11, 143, 144]), (0, []), (0, [146]), (0, []), (0, [147, 148, 149, 150, 151, 152, 153, 154, 155, 156, 157, 158, 159, 160, 161, 162, 163]), (0, []), (0, [165]), (0, []), (0, [166]), (0, []), (0, [167, 168, 169, 170, 171, 172, 173, 174]), (0, []), (0, []), (0, []), (0, []), (0, []), (0, []), (0, []), (0, []), (0, []), (0, []), (0, []), (0, []), (0, []), (0, []), (0, []), (0, []), (0, []), (0, []), (0, []), (0, []), (0, []), (0, []), (0, []), (0, []), (0, []), (0, []), (0, []), (0, []), (0, []), (0, []), (0, []), (0, []), (0, []), (0, []), (0, []), (0, []), (0, []), (0, []), (1, []), (0, []), (0, []), (0, []), (0, []), (0, []), (0, []), (0, []), (0, []), (0, []), (0, []), (0, []), (0, []), (0, []), (0, []), (0, []), (0, []), (0, []), (0, []), (0, []), (0, []), (0, []), (0, []), (0, []), (0, []), (0, []), (0, []), (0, []), (0, []), (0, []), (0, []), (0, []), (0, []), (0, []), (0, []), (0, []), (0, []), (0, []), (0, []), (0, []), (0, []), (0, []), (0, []), (0, []), (0, []), (0, []), (0, []), (0, []), (0, []), (0, []), (0, []), (0, []), (0, []), (0, []), (0, []), (0, []), (0, []), (0, []), (0, []), (0, []), (0, []), (0, []), (0, []), (0, []), (0, []), (0, []), (0, []), (0, []), (0, []), (0, []), (0, []), (0, []), (0, []), (0, []), (0, []), (0, []), (0, []), (0, []), (0, []), (0, []), (0, []), (0, []), (1, []), (0, []), (0, []), (0, []), (0, []), (0, []), (0, []), (0, []), (0, []), (0, []), (0, []), (0, []), (0, []), (0, []), (0, []), (0, []), (0, []), (0, []), (0, []), (0, []), (0, []), (0, []), (0, []), (0, []), (0, []), (0, []), (0, []), (0, []), (0, []), (0, []), (0, []), (0, []), (0, []), (0, []), (0, []), (0, []), (0, []), (0, []), (0, []), (0, []), (0, []), (0, []), (0, []), (0, []), (0, []), (0, []), (0, []), (0, []), (0, []), (0, []), (0, []), (0, []), (0, []), (0, []), (0, []), (0, []), (0, []), (0, []), (0, []), (0, []), (0, []), (0, []), (0, []), (0, []), (1, []), (0, []), (0, []), (0, []), (0, []), (0, []), (0, []), (0, []), (0, []), (0, []), (0, []), (0, []), (0, []), (0, []), (0, []), (0, []), (0, []), (0, []), (0, []), (0, []), (0, []), (0, []), (0, []), (0, []), (0, []), (0, []), (0, []), (0, []), (0, []), (0, []), (0, []), (0, []), (0, []), (0, []), (0, []), (0, []), (0, []), (0, []), (0, []), (0, []), (0, []), (0, []), (0, []), (0, []), (0, []), (0, []), (0, []), (0, []), (0, []), (0, []), (0, []), (0, []), (0, []), (0, []), (0, []), (0, []), (0, []), (0, []), (0, []), (0, []), (0, []), (0, []), (0, []), (0, []), (0, []), (0, []), (1, [])]
noncomputable def n89 : FInfo := ⟨bodyOf Tryz.f89, [.tmp 2], [4]⟩
theorem i89 : finfo Tryz.prog 89 d89 = some n89 := finfo_at Tryz.func89 rfl (by kernel_rfl) (by kernel_rfl)
noncomputable def c53 : CallP := orC 89 (fun xs => bodyP Tryz.prog inl c52 q1 100 d89 n89 xs) c52
theorem c53_ok : CpOK Tryz.prog c53 := orC_ok c52_ok fun args r h => bodyP_ok mixed c52_ok q1_ok i89 h
/-! 119: (lattice/infer.ask).lists -/
def d119 : List (Nat × List Nat) := [(0, [0, 2]), (0, [8, 13]), (0, []), (0, [1, 4, 6]), (0, [7]), (0, []), (0, []), (0, []), (0, [10]), (0, []), (0, []), (0, []), (0, [12]), (0, []), (0, []), (0, []), (0, [14]), (0, []), (0, [15]), (0, []), (0, [16]), (0, []), (0, [17]), (0, []), (0, [18]), (0, []), (0, [19]), (1, []), (0, [20]), (0, []), (0, [21]), (0, []), (0, []), (0, []), (0, [3, 22]), (0, []), (0, [23, 24]), (0, []), (0, [26, 27]), (0, []), (0, [28, 29]), (0, []), (0, [31, 32, 33, 34, 35, 36]), (0, []), (0, [5, 37])]
noncomputable def n119 : FInfo := ⟨bodyOf Tryz.f119, [.tmp 2], [73]⟩
theorem i119 : finfo Tryz.prog 119 d119 = some n119 := finfo_at Tryz.func119 rfl (by kernel_rfl) (by kernel_rfl)
noncomputable def c54 : CallP := orC 119 (fun xs => bodyP Tryz.prog inl c53 q1 100 d119 n119 xs) c53
theorem c54_ok : CpOK Tryz.prog c54 := orC_ok c53_ok fun args r h => bodyP_ok mixed c53_ok q1_ok i119 h
/-! 149: slices.IndexFunc[[]lattice/api.Val,lattice/api.Val] -/
def d149 : List (Nat × List Nat) := [(0, [4]), (0, [0, 1, 7, 8]), (0, [6]), (0, [5]), (0, []), (0, []), (0, [10]), (0, []), (0, [11, 12, 13, 14, 15]), (0, []), (0, [17]), (0, []), (0, [18]), (0, []), (0, [])]
noncomputable def n149 : FInfo := ⟨bodyOf Tryz.f149, [.tmp 4], [3]⟩
theorem i149 : finfo Tryz.prog 149 d149 = some n149 := finfo_at Tryz.func149 rfl (by kernel_rfl) (by kernel_rfl)
noncomputable def c55 : CallP := orC 149 (fun xs => bodyP Tryz.prog inl c54 q1 100 d149 n149 xs) c54
theorem c55_ok : CpOK Tryz.prog c55 := orC_ok c54_ok fun args r h => bodyP_ok mixed c54_ok q1_ok i149 h
/-! 120: slices.ContainsFunc[[]lattice/api.Val,lattice/api.Val] -/
def d120 : List (Nat × List Nat) := [(0, [4]), (0, []), (0, [0, 1, 5, 6, 7, 8])]
noncomputable def n120 : FInfo := ⟨bodyOf Tryz.f120, [.tmp 4], [4]⟩
theorem i120 : finfo Tryz.prog 120 d120 = some n120 := finfo_at Tryz.func120 rfl (by kernel_rfl) (by kernel_rfl)
noncomputable def c56 : CallP := orC 120 (fun xs => bodyP Tryz.prog inl c55 q1 100 d120 n120 xs) c55
theorem c56_ok : CpOK Tryz.prog c56 := orC_ok c55_ok fun args r h => bodyP_ok mixed c55_ok q1_ok i120 h
/-! 90: (lattice/infer.ask).told -/
def d90 : List (Nat × List Nat) := [(0, [0, 2]), (0, [1, 3]), (0, [4, 5]), (0, []), (0, [7, 8]), (0, []), (0, []), (0, []), (0, [10, 11]), (0, []), (0, []), (0, []), (0, [13, 14, 15, 16, 17, 18, 19]), (0, []), (0, []), (0, []), (0, [])]
noncomputable def n90 : FInfo := ⟨bodyOf Tryz.f90, [.tmp 2], [32]⟩
theorem i90 : finfo Tryz.prog 90 d90 = some n90 := finfo_at Tryz.func90 rfl (by kernel_rfl) (by kernel_rfl)
noncomputable def c57 : CallP := orC 90 (fun xs => bodyP Tryz.prog inl c56 q1 100 d90 n90 xs) c56
theorem c57_ok : CpOK Tryz.prog c57 := orC_ok c56_ok fun args r h => bodyP_ok mixed c56_ok q1_ok i90 h
/-! 67: (lattice/infer.ask).wrong -/
def d67 : List (Nat × List Nat) := [(0, [0, 2]), (0, [8, 9, 10]), (0, [7]), (0, []), (0, []), (0, []), (0, [12, 13, 14]), (0, []), (0, [4, 5, 15, 16, 17, 18, 19, 20]), (0, []), (0, [3, 6, 21, 22, 23, 24, 25, 26]), (0, []), (0, []), (0, []), (0, [28]), (0, []), (0, [30, 31, 32]), (0, []), (0, []), (0, []), (0, [34, 35, 36]), (0, []), (0, []), (0, []), (0, [1, 37, 38])]
noncomputable def n67 : FInfo := ⟨bodyOf Tryz.f67, [.tmp 2], [32]⟩
theorem i67 : finfo Tryz.prog 67 d67 = some n67 := finfo_at Tryz.func67 rfl (by kernel_rfl) (by kernel_rfl)
noncomputable def c58 : CallP := orC 67 (fun xs => bodyP Tryz.prog inl c57 q1 100 d67 n67 xs) c57
theorem c58_ok : CpOK Tryz.prog c58 := orC_ok c57_ok fun args r h => bodyP_ok mixed c57_ok q1_ok i67 h
/-! 102: lattice/infer.one -/
def d102 : List (Nat × List Nat) := [(0, [2, 3]), (0, []), (0, [0, 4, 5])]
noncomputable def n102 : FInfo := ⟨bodyOf Tryz.f102, [.tmp 2, .tmp 3], [98, 32]⟩
theorem i102 : finfo Tryz.prog 102 d102 = some n102 := finfo_at Tryz.func102 rfl (by kernel_rfl) (by kernel_rfl)
noncomputable def c59 : CallP := orC 102 (fun xs => bodyP Tryz.prog inl c58 q1 100 d102 n102 xs) c58
theorem c59_ok : CpOK Tryz.prog c59 := orC_ok c58_ok fun args r h => bodyP_ok mixed c58_ok q1_ok i102 h
/-! 70: slices.Clone[[]int,int] -/
def d70 : List (Nat × List Nat) := [(0, [2]), (0, []), (0, [3]), (0, []), (0, []), (0, []), (0, [0, 5, 6, 7])]
noncomputable def n70 : FInfo := ⟨bodyOf Tryz.f70, [.tmp 2], [22]⟩
theorem i70 : finfo Tryz.prog 70 d70 = some n70 := finfo_at Tryz.func70 rfl (by kernel_rfl) (by kernel_rfl)
def z70 (k : List AV → Option AV) : List AV → Option AV
  | [.arr 0 []] => some (.fresh 1 0 [])
  | xs => k xs
noncomputable def c60 : CallP := orC 70 (z70 fun xs => bodyP Tryz.prog inl c59 q1 100 d70 n70 xs) c59
theorem y70 (a : Option Addr) (c : Nat) : bodyP Tryz.prog inl c59 q1 100 d70 n70 [.v (.slice a 0 c)] = some (.fresh 1 0 []) := by cases a <;> kernel_rfl
theorem c60_ok : CpOK Tryz.prog c60 := orC_ok c59_ok fun args r h => by
  unfold z70 at h
  split at h
  · injection h with h; subst h
    exact PureOK.arr0 fun a c => bodyP_ok mixed c59_ok q1_ok i70 (y70 a c)
  · exact bodyP_ok mixed c59_ok q1_ok i70 h
/-! 156: lattice/infer.number -/
def d156 : List (Nat × List Nat) := [(0, [6]), (0, []), (0, [7, 8]), (0, []), (0, [10]), (0, []), (0, [0, 1, 2, 11, 12, 13, 14])]
noncomputable def n156 : FInfo := ⟨bodyOf Tryz.f156, [.tmp 6], [3]⟩
theorem i156 : finfo Tryz.prog 156 d156 = some n156 := finfo_at Tryz.func156 rfl (by kernel_rfl) (by kernel_rfl)
noncomputable def c61 : CallP := orC 156 (fun xs => bodyP Tryz.prog inl c60 q1 100 d156 n156 xs) c60
theorem c61_ok : CpOK Tryz.prog c61 := orC_ok c60_ok fun args r h => bodyP_ok mixed c60_ok q1_ok i156 h
/-! 142: (lattice/infer.ask).windows -/
def d142 : List (Nat × List Nat) := [(0, [0, 4, 5]), (0, [1, 2, 7, 14]), (0, [1000006]), (0, []), (0, [12, 13]), (0, []), (0, []), (0, []), (0, []), (0, []), (0, [16]), (0, []), (39, [8, 10, 17, 18, 19, 20, 21, 22, 23, 24, 25, 26, 27, 28, 29, 30, 31, 32, 33, 34, 35, 36, 37, 38, 39, 40, 41, 42, 43, 44, 45, 46, 47, 48, 49, 50, 51, 52]), (0, []), (0, [11, 53]), (0, []), (0, []), (0, []), (0, [9, 55, 56, 57, 58]), (0, []), (0, [59]), (0, []), (0, [6, 60])]
noncomputable def n142 : FInfo := ⟨bodyOf Tryz.f142, [.tmp 4, .tmp 5], [22, 4]⟩
theorem i142 : finfo Tryz.prog 142 d142 = some n142 := finfo_at Tryz.func142 rfl (by kernel_rfl) (by kernel_rfl)
noncomputable def c62 : CallP := orC 142 (fun xs => bodyP Tryz.prog inl c61 q1 100 d142 n142 xs) c61
theorem c62_ok : CpOK Tryz.prog c62 := orC_ok c61_ok fun args r h => bodyP_ok mixed c61_ok q1_ok i142 h
/-! 99: (lattice/infer.ask).conv -/
def d99 : List (Nat × List Nat) := [(0, [0, 2, 3]), (0, []), (10, [9, 10, 11, 12, 13, 14, 15]), (0, []), (47, [6, 16, 17, 18, 19, 20, 21, 22, 23, 24, 25, 26, 27, 28, 29, 30, 31, 32, 33, 34, 35, 36, 37, 38, 39, 40, 41, 42, 43, 44, 45, 46, 47, 48, 49, 50, 51, 52, 53, 54, 55, 56, 57, 58, 59, 60, 61]), (0, []), (0, [63, 64, 65]), (0, []), (26, [66, 67, 68, 69, 70, 71, 72, 73, 74, 75, 76, 77, 78, 79, 80, 81, 82, 83, 84, 85, 86, 87, 88, 89, 90]), (0, []), (0, [92, 93, 94]), (0, []), (9, [1, 95, 96, 97, 98, 99, 100, 101]), (0, []), (0, [8, 102]), (0, []), (0, [104, 105, 106]), (0, []), (18, [4, 5, 7, 107, 108, 109, 110, 111, 112, 113, 114, 115, 116, 117, 118, 119, 120, 121, 122])]
noncomputable def n99 : FInfo := ⟨bodyOf Tryz.f99, [.tmp 2, .tmp 3], [98, 32]⟩
theorem i99 : finfo Tryz.prog 99 d99 = some n99 := finfo_at Tryz.func99 rfl (by kernel_rfl) (by kernel_rfl)
noncomputable def c63 : CallP := orC 99 (fun xs => bodyP Tryz.prog inls c62 q1 100 d99 n99 xs) c62
theorem c63_ok : CpOK Tryz.prog c63 := orC_ok c62_ok fun args r h => bodyP_ok mixed c62_ok q1_ok i99 h
/-! 68: (lattice/infer.ask).shapes -/
def d68 : List (Nat × List Nat) := [(0, [0, 2, 3]), (0, [1, 5, 9, 10, 54, 78, 108, 115]), (0, [6, 7]), (0, []), (0, [8]), (0, []), (0, [11]), (0, []), (0, [12]), (0, []), (0, [13]), (0, []), (0, [14]), (0, []), (0, [15]), (0, []), (0, [16]), (0, []), (0, [17]), (0, []), (0, [18]), (1, []), (0, [19]), (0, []), (0, [20]), (0, []), (0, [21]), (0, []), (0, [22]), (0, []), (0, [23]), (0, []), (0, [24]), (0, []), (0, [25]), (0, []), (0, [26]), (0, []), (0, [27]), (0, []), (0, [28, 29, 30, 31]), (0, []), (0, [33]), (0, []), (0, [34, 35, 36, 37]), (0, []), (0, [38]), (0, []), (0, [40]), (0, []), (0, [42]), (0, []), (8, [43, 44, 45, 46, 47, 48, 49]), (0, []), (0, [51, 52, 53]), (0, []), (0, [55]), (0, []), (0, [56]), (0, []), (0, [57]), (0, []), (0, [58]), (0, []), (0, [59]), (0, []), (0, [60]), (0, []), (0, [61]), (0, []), (0, [62]), (0, []), (0, [63]), (0, []), (0, [64]), (0, []), (0, [65]), (0, []), (0, [66]), (0, []), (0, [67]), (0, []), (0, [68]), (0, []), (0, [69]), (0, []), (0, [70]), (0, []), (0, [71]), (0, []), (0, [72]), (0, []), (0, [73]), (0, []), (0, [74, 75, 76, 77]), (0, []), (0, [79]), (0, []), (0, [80]), (0, []), (0, [81]), (0, []), (0, [82]), (0, []), (0, [83]), (0, []), (0, [84]), (0, []), (0, [85]), (1, []), (0, [86, 87, 88, 89]), (0, []), (0, [91]), (0, []), (0, [92, 93, 94, 95]), (0, []), (0, [97]), (0, []), (0, [98, 99, 100, 101]), (0, []), (0, [103]), (0, []), (0, [104, 105, 106, 107]), (0, []), (0, [109]), (0, []), (0, [110]), (0, []), (0, [111, 112, 113, 114]), (0, []), (0, [116]), (0, []), (0, [117]), (0, []), (0, [118]), (0, []), (0, [119, 120, 121, 122]), (0, []), (0, [4, 123, 124, 125, 126]), (0, []), (0, []), (0, []), (0, []), (0, []), (0, []), (0, []), (0, []), (0, []), (0, []), (0, []), (0, []), (0, []), (0, []), (0, []), (0, []), (0, []), (0, []), (1, []), (0, []), (0, []), (0, []), (0, []), (0, []), (0, []), (0, []), (0, []), (0, []), (0, []), (0, []), (0, []), (0, []), (0, []), (0, []), (0, []), (0, []), (0, []), (0, []), (0, []), (0, []), (0, []), (0, []), (0, []), (0, []), (0, []), (0, []), (0, []), (0, []), (0, []), (0, []), (0, []), (0, []), (0, []), (0, []), (0, []), (0, []), (0, []), (0, []), (0, []), (0, []), (0, []), (0, []), (0, []), (0, []), (0, []), (0, []), (0, []), (0, []), (0, []), (0, []), (0, []), (0, []), (0, []), (0, []), (0, []), (0, []), (0, []), (0, []), (1, []), (0, []), (0, []), (0, []), (0, []), (0, []), (0, []), (0, []), (0, []), (0, []), (0, []), (0, []), (0, []), (0, []), (1, [])]
noncomputable def n68 : FInfo := ⟨bodyOf Tryz.f68, [.tmp 2, .tmp 3], [98, 32]⟩
theorem i68 : finfo Tryz.prog 68 d68 = some n68 := finfo_at Tryz.func68 rfl (by kernel_rfl) (by kernel_rfl)
noncomputable def c64 : CallP := orC 68 (fun xs => bodyP Tryz.prog inl c63 q1 100 d68 n68 xs) c63
theorem c64_ok : CpOK Tryz.prog c64 := orC_ok c63_ok fun args r h => bodyP_ok mixed c63_ok q1_ok i68 h
/-! 69: (lattice/infer.ask).out -/
def d69 : List (Nat × List Nat) := [(0, [0, 2]), (0, [4, 5, 17]), (0, [3]), (0, []), (0, [6]), (0, []), (0, [7]), (0, []), (0, [8]), (0, []), (0, [9]), (1, []), (0, [10]), (0, []), (0, [11]), (0, []), (0, [12]), (0, []), (0, [13]), (0, []), (0, [14]), (0, []), (0, [15]), (0, []), (0, [16]), (0, []), (0, []), (0, []), (0, [18]), (0, []), (0, [19]), (0, []), (0, [20]), (0, []), (0, [21]), (1, []), (0, []), (0, []), (0, [23]), (0, []), (0, [24, 25, 26]), (0, []), (0, [28]), (0, []), (0, [29, 30, 31, 32]), (0, []), (0, [34]), (0, []), (0, [35, 36, 37]), (0, []), (0, [1, 38, 39, 40])]
noncomputable def n69 : FInfo := ⟨bodyOf Tryz.f69, [.tmp 2], [3]⟩
theorem i69 : finfo Tryz.prog 69 d69 = some n69 := finfo_at Tryz.func69 rfl (by kernel_rfl) (by kernel_rfl)
noncomputable def c65 : CallP := orC 69 (fun xs => bodyP Tryz.prog inl c64 q1 100 d69 n69 xs) c64
theorem c65_ok : CpOK Tryz.prog c65 := orC_ok c64_ok fun args r h => bodyP_ok mixed c64_ok q1_ok i69 h
/-! 37: lattice/infer.Node -/
def d37 : List (Nat × List Nat) := [(0, [1, 8, 9]), (0, [10, 40, 41, 42]), (0, [0, 2, 3, 5, 19, 20, 21, 22, 23]), (0, []), (0, [24, 25]), (0, []), (0, []), (0, []), (0, [27, 28]), (0, []), (0, [29]), (0, []), (0, [31]), (0, []), (0, [11, 32, 33, 34, 35, 36]), (0, []), (0, [37]), (0, []), (0, [39]), (0, []), (0, [13, 8000014]), (0, []), (0, [12]), (0, []), (0, []), (0, []), (0, [44, 45]), (0, []), (0, [17, 46, 47, 48, 49, 50]), (0, []), (0, [18, 51]), (0, []), (0, []), (0, []), (0, [16, 53, 54, 55, 56, 57, 58, 59, 60]), (0, []), (0, [61]), (0, []), (0, [14, 62])]
noncomputable def n37 : FInfo := ⟨bodyOf Tryz.f37, [.tmp 8, .tmp 9], [73, 32]⟩
theorem i37 : finfo Tryz.prog 37 d37 = some n37 := finfo_at Tryz.func37 rfl (by kernel_rfl) (by kernel_rfl)
noncomputable def k37 : List AV → Option AV := fun xs => bodyP Tryz.prog inl c65 q1 100 d37 n37 xs
def a37_0 : List AV := [.v (.int .i64 75), .agg [.v (.int .i64 0), .arr 0 [], .v (.bool false), .v (.bool false), .v (.bool false), .v (.bool false), .v (.bool false), .arr 0 [], .v (.bool false), .v (.int .u32 0), .v (.int .u32 0), .v (.int .u32 0), .v (.bool false), .v (.bool false), .v (.bool false), .v (.int .i64 0), .v (.int .i64 0), .v (.bool false), .v (.bool false), .v (.int .i64 1), .arr 0 [], .arr 0 [], .arr 0 [], .arr 0 [], .v (.int .i64 0), .v (.bool false), .v (.bool false), .v (.int .i64 0), .v (.int .i64 0), .v (.int .i64 0), .v (.bool false), .v (.int .i64 0), .arr 0 [], .arr 0 [], .arr 0 [], .arr 0 []], .arr 2 [.v (.int .i64 1), .arr 4 [.v (.int .i64 1), .v (.int .i64 1), .v (.int .i64 3), .v (.int .i64 3)], .v (.bool true), .v (.int .i64 1), .arr 4 [.v (.int .i64 1), .v (.int .i64 1), .v (.int .i64 3), .v (.int .i64 3)], .arr 9 [.v (.int .u32 1065353216), .v (.int .u32 1073741824), .v (.int .u32 1077936128), .v (.int .u32 1082130432), .v (.int .u32 1084227584), .v (.int .u32 1086324736), .v (.int .u32 1088421888), .v (.int .u32 1090519040), .v (.int .u32 1091567616)], .arr 0 [], .arr 0 [], .v (.int .i64 1), .arr 4 [.v (.int .i64 1), .v (.int .i64 1), .v (.int .i64 2), .v (.int .i64 2)], .v (.bool true), .v (.int .i64 1), .arr 4 [.v (.int .i64 1), .v (.int .i64 1), .v (.int .i64 2), .v (.int .i64 2)], .arr 4 [.v (.int .u32 1065353216), .v (.int .u32 1065353216), .v (.int .u32 1065353216), .v (.int .u32 1065353216)], .arr 0 [], .arr 0 []], .v (.int .i64 1)]
def r37_0 : AV := .tuple [.fresh 8 1 [.v (.int .i64 1), .arr 4 [.v (.int .i64 1), .v (.int .i64 1), .v (.int .i64 2), .v (.int .i64 2)], .v (.bool false), .v (.int .i64 0), .arr 0 [], .arr 0 [], .arr 0 [], .arr 0 []], .v (.int .i64 0)]
theorem p37_0 : k37 a37_0 = some r37_0 := by kernel_rfl
def a37_1 : List AV := [.v (.int .i64 75), .agg [.v (.int .i64 0), .arr 0 [], .v (.bool false), .v (.bool false), .v (.bool false), .v (.bool false), .v (.bool false), .arr 0 [], .v (.bool false), .v (.int .u32 0), .v (.int .u32 0), .v (.int .u32 0), .v (.bool false), .v (.bool false), .v (.bool false), .v (.int .i64 0), .v (.int .i64 0), .v (.bool false), .v (.bool false), .v (.int .i64 1), .arr 0 [], .arr 2 [.v (.int .i64 2), .v (.int .i64 2)], .arr 4 [.v (.int .i64 1), .v (.int .i64 0), .v (.int .i64 0), .v (.int .i64 0)], .arr 0 [], .v (.int .i64 0), .v (.bool false), .v (.bool false), .v (.int .i64 0), .v (.int .i64 0), .v (.int .i64 0), .v (.bool false), .v (.int .i64 0), .arr 0 [], .arr 0 [], .arr 0 [], .arr 0 []], .arr 2 [.v (.int .i64 1), .arr 4 [.v (.int .i64 1), .v (.int .i64 1), .v (.int .i64 3), .v (.int .i64 3)], .v (.bool true), .v (.int .i64 1), .arr 4 [.v (.int .i64 1), .v (.int .i64 1), .v (.int .i64 3), .v (.int .i64 3)], .arr 9 [.v (.int .u32 1065353216), .v (.int .u32 1073741824), .v (.int .u32 1077936128), .v (.int .u32 1082130432), .v (.int .u32 1084227584), .v (.int .u32 1086324736), .v (.int .u32 1088421888), .v (.int .u32 1090519040), .v (.int .u32 1091567616)], .arr 0 [], .arr 0 [], .v (.int .i64 1), .arr 4 [.v (.int .i64 1), .v (.int .i64 1), .v (.int .i64 2), .v (.int .i64 2)], .v (.bool true), .v (.int .i64 1), .arr 4 [.v (.int .i64 1), .v (.int .i64 1), .v (.int .i64 2), .v (.int .i64 2)], .arr 4 [.v (.int .u32 1065353216), .v (.int .u32 1065353216), .v (.int .u32 1065353216), .v (.int .u32 1065353216)], .arr 0 [], .arr 0 []], .v (.int .i64 1)]
def r37_1 : AV := .tuple [.fresh 8 1 [.v (.int .i64 1), .arr 4 [.v (.int .i64 1), .v (.int .i64 1), .v (.int .i64 2), .v (.int .i64 1)], .v (.bool false), .v (.int .i64 0), .arr 0 [], .arr 0 [], .arr 0 [], .arr 0 []], .v (.int .i64 0)]
theorem p37_1 : k37 a37_1 = some r37_1 := by kernel_rfl
noncomputable def z37 : List AV → Option AV := fun xs => if sameL (sameA 8) xs a37_0 = true then some r37_0 else if sameL (sameA 8) xs a37_1 = true then some r37_1 else k37 xs
noncomputable def c66 : CallP := orC 37 z37 c65
theorem k37_ok (args : List AV) (r : AV) (h : k37 args = some r) : PureOK Tryz.prog 37 args r := by
  unfold k37 at h
  exact bodyP_ok mixed c65_ok q1_ok i37 h
theorem c66_ok : CpOK Tryz.prog c66 := orC_ok c65_ok fun args r h => by
  unfold z37 at h
  by_cases h0 : sameL (sameA 8) args a37_0 = true
  · rw [if_pos h0] at h; injection h with h; subst h; rw [sameL_eq (sameA_eq 8) h0]; exact k37_ok _ _ p37_0
  rw [if_neg h0] at h
  by_cases h1 : sameL (sameA 8) args a37_1 = true
  · rw [if_pos h1] at h; injection h with h; subst h; rw [sameL_eq (sameA_eq 8) h1]; exact k37_ok _ _ p37_1
  rw [if_neg h1] at h
  exact k37_ok _ _ h
/-! 38: lattice/ewise.Vals -/
def d38 : List (Nat × List Nat) := [(0, [2]), (0, [7, 8, 9]), (0, [8000003]), (0, []), (0, [0]), (0, []), (0, []), (0, []), (0, [11, 12]), (0, []), (0, [13]), (0, []), (0, [14, 15]), (0, []), (8, [17, 18, 19, 20, 21, 22, 23, 24]), (0, []), (0, [5, 6, 25, 26, 27, 28]), (0, []), (0, [29]), (0, []), (0, [3, 30])]
noncomputable def n38 : FInfo := ⟨bodyOf Tryz.f38, [.tmp 2], [73]⟩
theorem i38 : finfo Tryz.prog 38 d38 = some n38 := finfo_at Tryz.func38 rfl (by kernel_rfl) (by kernel_rfl)
noncomputable def c67 : CallP := orC 38 (fun xs => (bodyP Tryz.prog inl c66 q1 100 d38 n38 xs).bind (sealR 4)) c66
theorem c67_ok : CpOK Tryz.prog c67 := orC_ok c66_ok fun args r h => by
  obtain ⟨r0, h0, h1⟩ := Option.bind_eq_some_iff.1 h
  exact (bodyP_ok mixed c66_ok q1_ok i38 h0).sealed h1
/-! 19: lattice/conv.begin -/
def d19 : List (Nat × List Nat) := [(0, [1, 6, 7]), (0, [22, 23, 24]), (0, [16, 17]), (0, []), (0, []), (0, []), (0, [19, 20, 21, 40005000008]), (0, []), (0, []), (0, []), (0, []), (0, []), (0, [26, 27]), (0, []), (0, [28, 29]), (0, []), (0, [31, 32]), (0, []), (0, [33]), (0, []), (0, [35]), (0, []), (1008, [10, 11, 36, 37, 38, 39, 40, 41, 42, 43, 44, 45, 46]), (0, []), (0, [47]), (0, []), (10, [0, 2, 48, 49, 50, 51, 52, 53, 54, 55]), (0, []), (0, [56]), (0, []), (0, [58]), (0, []), (0, [12, 13, 59, 60, 61, 62, 63, 64, 65]), (0, []), (16, [66, 67, 68, 69, 70, 71, 72, 73, 74, 75, 76, 77, 78, 79]), (0, []), (21922524559963543773075079531372811379237376134272, [80, 81, 82, 83, 84, 85, 86, 87, 88, 89, 90, 91, 92, 93]), (0, []), (21922524559963543773075079531372811379237376134272, [4, 14, 15, 94, 95, 96, 97, 98, 99, 100, 101, 102, 103, 104, 105, 106, 107]), (0, []), (0, [8, 108])]
noncomputable def n19 : FInfo := ⟨bodyOf Tryz.f19, [.tmp 6, .tmp 7], [49, 32]⟩
theorem i19 : finfo Tryz.prog 19 d19 = some n19 := finfo_at Tryz.func19 rfl (by kernel_rfl) (by kernel_rfl)
noncomputable def q2 : CallI := ciE Tryz.prog inl c67 q1 100 19 d19 n19 q1
theorem q2_ok : CiOK Tryz.prog q2 := ciE_ok mixed c67_ok q1_ok i19 q1_ok
/-! 39: lattice/tens.New -/
def d39 : List (Nat × List Nat) := [(0, [5]), (0, [6, 26]), (0, [9, 10]), (0, []), (0, [12]), (0, []), (0, [13, 14, 15, 16, 17]), (0, []), (0, [18]), (0, []), (0, [20, 21]), (0, []), (0, [1, 7, 22, 23, 24, 25]), (0, []), (0, [0]), (0, []), (0, [27, 28, 29]), (0, []), (0, [31]), (0, []), (0, [32, 33, 34]), (0, []), (0, [36]), (0, []), (0, [37, 38, 39]), (0, []), (0, [8, 40])]
noncomputable def n39 : FInfo := ⟨bodyOf Tryz.f39, [.cell 4 28, .tmp 5], [28, 32]⟩
theorem i39 : finfo Tryz.prog 39 d39 = some n39 := finfo_at Tryz.func39 rfl (by kernel_rfl) (by kernel_rfl)
noncomputable def c68 : CallP := orC 39 (fun xs => bodyP Tryz.prog inl c67 q2 100 d39 n39 xs) c67
theorem c68_ok : CpOK Tryz.prog c68 := orC_ok c67_ok fun args r h => bodyP_ok mixed c67_ok q2_ok i39 h
/-! 71: lattice/shape.strides -/
def d71 : List (Nat × List Nat) := [(0, [2]), (0, [0, 4, 5]), (0, [6, 7, 8]), (0, []), (0, []), (0, []), (0, [9, 10, 11]), (0, []), (0, [12]), (0, []), (0, [14, 15]), (0, []), (0, [16, 17, 18, 19]), (0, []), (0, [20, 21, 22, 23, 24, 25]), (0, []), (0, [3, 26])]
noncomputable def n71 : FInfo := ⟨bodyOf Tryz.f71, [.tmp 2], [22]⟩
theorem i71 : finfo Tryz.prog 71 d71 = some n71 := finfo_at Tryz.func71 rfl (by kernel_rfl) (by kernel_rfl)
noncomputable def c69 : CallP := orC 71 (fun xs => bodyP Tryz.prog inl c68 q2 100 d71 n71 xs) c68
theorem c69_ok : CpOK Tryz.prog c69 := orC_ok c68_ok fun args r h => bodyP_ok mixed c68_ok q2_ok i71 h
/-! 40: lattice/shape.Index -/
def d40 : List (Nat × List Nat) := [(0, [4, 5]), (0, [1, 30, 31, 32]), (0, [11, 12, 13, 14, 15]), (0, []), (0, [16]), (0, []), (0, [18]), (0, []), (0, [6, 7, 19, 20, 21, 22, 23, 24]), (0, []), (0, []), (0, []), (0, [26, 27, 28]), (0, []), (0, [0, 29]), (0, []), (0, []), (0, []), (0, [34, 35, 36]), (0, []), (0, [9, 37, 38, 39, 40, 41, 42]), (0, []), (0, [10, 43, 44, 45]), (0, []), (0, [46]), (0, []), (0, [8, 47])]
noncomputable def n40 : FInfo := ⟨bodyOf Tryz.f40, [.tmp 4, .tmp 5], [22, 32]⟩
theorem i40 : finfo Tryz.prog 40 d40 = some n40 := finfo_at Tryz.func40 rfl (by kernel_rfl) (by kernel_rfl)
noncomputable def k40 : List AV → Option AV := fun xs => bodyP Tryz.prog inl c69 q2 100 d40 n40 xs
def a40_0 : List AV := [.arr 4 [.v (.int .i64 1), .v (.int .i64 1), .v (.int .i64 2), .v (.int .i64 1)], .v (.int .i64 0)]
def r40_0 : AV := .tuple [.fresh 1 4 [.v (.int .i64 0), .v (.int .i64 0), .v (.int .i64 0), .v (.int .i64 0)], .v (.int .i64 0)]
theorem p40_0 : k40 a40_0 = some r40_0 := by kernel_rfl
def a40_1 : List AV := [.arr 4 [.v (.int .i64 1), .v (.int .i64 1), .v (.int .i64 2), .v (.int .i64 1)], .v (.int .i64 1)]
def r40_1 : AV := .tuple [.fresh 1 4 [.v (.int .i64 0), .v (.int .i64 0), .v (.int .i64 1), .v (.int .i64 0)], .v (.int .i64 0)]
theorem p40_1 : k40 a40_1 = some r40_1 := by kernel_rfl
def a40_2 : List AV := [.arr 4 [.v (.int .i64 1), .v (.int .i64 1), .v (.int .i64 2), .v (.int .i64 2)], .v (.int .i64 0)]
def r40_2 : AV := .tuple [.fresh 1 4 [.v (.int .i64 0), .v (.int .i64 0), .v (.int .i64 0), .v (.int .i64 0)], .v (.int .i64 0)]
theorem p40_2 : k40 a40_2 = some r40_2 := by kernel_rfl
def a40_3 : List AV := [.arr 4 [.v (.int .i64 1), .v (.int .i64 1), .v (.int .i64 2), .v (.int .i64 2)], .v (.int .i64 1)]
def r40_3 : AV := .tuple [.fresh 1 4 [.v (.int .i64 0), .v (.int .i64 0), .v (.int .i64 0), .v (.int .i64 1)], .v (.int .i64 0)]
theorem p40_3 : k40 a40_3 = some r40_3 := by kernel_rfl
def a40_4 : List AV := [.arr 4 [.v (.int .i64 1), .v (.int .i64 1), .v (.int .i64 2), .v (.int .i64 2)], .v (.int .i64 2)]
def r40_4 : AV := .tuple [.fresh 1 4 [.v (.int .i64 0), .v (.int .i64 0), .v (.int .i64 1), .v (.int .i64 0)], .v (.int .i64 0)]
theorem p40_4 : k40 a40_4 = some r40_4 := by kernel_rfl
def a40_5 : List AV := [.arr 4 [.v (.int .i64 1), .v (.int .i64 1), .v (.int .i64 2), .v (.int .i64 2)], .v (.int .i64 3)]
def r40_5 : AV := .tuple [.fresh 1 4 [.v (.int .i64 0), .v (.int .i64 0), .v (.int .i64 1), .v (.int .i64 1)], .v (.int .i64 0)]
theorem p40_5 : k40 a40_5 = some r40_5 := by kernel_rfl
noncomputable def z40 : List AV → Option AV := fun xs => if sameL (sameA 8) xs a40_0 = true then some r40_0 else if sameL (sameA 8) xs a40_1 = true then some r40_1 else if sameL (sameA 8) xs a40_2 = true then some r40_2 else if sameL (sameA 8) xs a40_3 = true then some r40_3 else if sameL (sameA 8) xs a40_4 = true then some r40_4 else if sameL (sameA 8) xs a40_5 = true then some r40_5 else k40 xs
noncomputable def c70 : CallP := orC 40 z40 c69
theorem k40_ok (args : List AV) (r : AV) (h : k40 args = some r) : PureOK Tryz.prog 40 args r := by
  unfold k40 at h
  exact bodyP_ok mixed c69_ok q2_ok i40 h
theorem c70_ok : CpOK Tryz.prog c70 := orC_ok c69_ok fun args r h => by
  unfold z40 at h
  by_cases h0 : sameL (sameA 8) args a40_0 = true
  · rw [if_pos h0] at h; injection h with h; subst h; rw [sameL_eq (sameA_eq 8) h0]; exact k40_ok _ _ p40_0
  rw [if_neg h0] at h
  by_cases h1 : sameL (sameA 8) args a40_1 = true
  · rw [if_pos h1] at h; injection h with h; subst h; rw [sameL_eq (sameA_eq 8) h1]; exact k40_ok _ _ p40_1
  rw [if_neg h1] at h
  by_cases h2 : sameL (sameA 8) args a40_2 = true
  · rw [if_pos h2] at h; injection h with h; subst h; rw [sameL_eq (sameA_eq 8) h2]; exact k40_ok _ _ p40_2
  rw [if_neg h2] at h
  by_cases h3 : sameL (sameA 8) args a40_3 = true
  · rw [if_pos h3] at h; injection h with h; subst h; rw [sameL_eq (sameA_eq 8) h3]; exact k40_ok _ _ p40_3
  rw [if_neg h3] at h
  by_cases h4 : sameL (sameA 8) args a40_4 = true
  · rw [if_pos h4] at h; injection h with h; subst h; rw [sameL_eq (sameA_eq 8) h4]; exact k40_ok _ _ p40_4
  rw [if_neg h4] at h
  by_cases h5 : sameL (sameA 8) args a40_5 = true
  · rw [if_pos h5] at h; injection h with h; subst h; rw [sameL_eq (sameA_eq 8) h5]; exact k40_ok _ _ p40_5
  rw [if_neg h5] at h
  exact k40_ok _ _ h
/-! 20: (*lattice/conv.work).each -/
def d20 : List (Nat × List Nat) := [(0, []), (0, [0, 1, 20, 21]), (0, [6, 10, 11, 12, 13, 14, 15, 16, 17]), (0, [7, 8]), (0, [18, 19]), (0, []), (0, []), (0, []), (0, [23]), (0, []), (0, [9, 24, 25, 26, 27, 28, 29, 30, 31, 32]), (0, []), (18, [33, 34, 35, 36, 37, 38, 39, 40, 41, 42, 43, 44, 45, 46, 47, 48, 49, 50]), (0, []), (0, [51, 52, 53, 54, 55, 56, 57, 58, 59, 60, 61, 62, 63, 64, 65]), (0, []), (22, [67, 68, 69, 70, 71, 72, 73, 74, 75, 76, 77, 78, 79, 80, 81, 82, 83, 84, 85, 86, 87, 88]), (0, []), (0, [89]), (0, []), (0, [5, 90])]
noncomputable def n20 : FInfo := ⟨bodyOf Tryz.f20, [.cell 4 28], [28]⟩
theorem i20 : finfo Tryz.prog 20 d20 = some n20 := finfo_at Tryz.func20 rfl (by kernel_rfl) (by kernel_rfl)
noncomputable def q3 : CallI := ciE Tryz.prog inl c70 q2 100 20 d20 n20 q2
theorem q3_ok : CiOK Tryz.prog q3 := ciE_ok mixed c70_ok q2_ok i20 q2_ok
/-! 8: lattice/conv.Do -/
def d8 : List (Nat × List Nat) := [(0, [1, 7]), (0, []), (0, [0, 2, 4, 10, 11, 12, 13, 14, 15, 16]), (0, []), (0, [17]), (0, []), (0, [19, 20]), (0, []), (0, [8, 9, 21, 22, 23, 24])]
noncomputable def n8 : FInfo := ⟨bodyOf Tryz.f8, [.cell 6 28, .tmp 7], [28, 32]⟩
theorem i8 : finfo Tryz.prog 8 d8 = some n8 := finfo_at Tryz.func8 rfl (by kernel_rfl) (by kernel_rfl)
noncomputable def k8 : List AV → Option AV := fun xs => bodyP Tryz.prog inl c70 q3 100 d8 n8 xs
def a8_0 : List AV := [.v (.int .i64 75), .agg [.v (.int .i64 0), .arr 0 [], .v (.bool false), .v (.bool false), .v (.bool false), .v (.bool false), .v (.bool false), .arr 0 [], .v (.bool false), .v (.int .u32 0), .v (.int .u32 0), .v (.int .u32 0), .v (.bool false), .v (.bool false), .v (.bool false), .v (.int .i64 0), .v (.int .i64 0), .v (.bool false), .v (.bool false), .v (.int .i64 1), .arr 0 [], .arr 0 [], .arr 0 [], .arr 0 [], .v (.int .i64 0), .v (.bool false), .v (.bool false), .v (.int .i64 0), .v (.int .i64 0), .v (.int .i64 0), .v (.bool false), .v (.int .i64 0), .arr 0 [], .arr 0 [], .arr 0 [], .arr 0 []], .arr 2 [.v (.int .i64 1), .arr 4 [.v (.int .i64 1), .v (.int .i64 1), .v (.int .i64 3), .v (.int .i64 3)], .arr 9 [.v (.int .u32 1065353216), .v (.int .u32 1073741824), .v (.int .u32 1077936128), .v (.int .u32 1082130432), .v (.int .u32 1084227584), .v (.int .u32 1086324736), .v (.int .u32 1088421888), .v (.int .u32 1090519040), .v (.int .u32 1091567616)], .arr 0 [], .arr 0 [], .v (.int .i64 1), .arr 4 [.v (.int .i64 1), .v (.int .i64 1), .v (.int .i64 2), .v (.int .i64 2)], .arr 4 [.v (.int .u32 1065353216), .v (.int .u32 1065353216), .v (.int .u32 1065353216), .v (.int .u32 1065353216)], .arr 0 [], .arr 0 []]]
def r8_0 : AV := .tuple [.agg [.v (.int .i64 1), .fresh 1 4 [.v (.int .i64 1), .v (.int .i64 1), .v (.int .i64 2), .v (.int .i64 2)], .fresh 1 4 [.v (.int .u32 1094713344), .v (.int .u32 1098907648), .v (.int .u32 1103101952), .v (.int .u32 1105199104)], .fresh 1 0 [], .fresh 1 0 []], .v (.int .i64 0)]
theorem p8_0 : k8 a8_0 = some r8_0 := by kernel_rfl
def a8_1 : List AV := [.v (.int .i64 75), .agg [.v (.int .i64 0), .arr 0 [], .v (.bool false), .v (.bool false), .v (.bool false), .v (.bool false), .v (.bool false), .arr 0 [], .v (.bool false), .v (.int .u32 0), .v (.int .u32 0), .v (.int .u32 0), .v (.bool false), .v (.bool false), .v (.bool false), .v (.int .i64 0), .v (.int .i64 0), .v (.bool false), .v (.bool false), .v (.int .i64 1), .arr 0 [], .arr 2 [.v (.int .i64 2), .v (.int .i64 2)], .arr 4 [.v (.int .i64 1), .v (.int .i64 0), .v (.int .i64 0), .v (.int .i64 0)], .arr 0 [], .v (.int .i64 0), .v (.bool false), .v (.bool false), .v (.int .i64 0), .v (.int .i64 0), .v (.int .i64 0), .v (.bool false), .v (.int .i64 0), .arr 0 [], .arr 0 [], .arr 0 [], .arr 0 []], .arr 2 [.v (.int .i64 1), .arr 4 [.v (.int .i64 1), .v (.int .i64 1), .v (.int .i64 3), .v (.int .i64 3)], .arr 9 [.v (.int .u32 1065353216), .v (.int .u32 1073741824), .v (.int .u32 1077936128), .v (.int .u32 1082130432), .v (.int .u32 1084227584), .v (.int .u32 1086324736), .v (.int .u32 1088421888), .v (.int .u32 1090519040), .v (.int .u32 1091567616)], .arr 0 [], .arr 0 [], .v (.int .i64 1), .arr 4 [.v (.int .i64 1), .v (.int .i64 1), .v (.int .i64 2), .v (.int .i64 2)], .arr 4 [.v (.int .u32 1065353216), .v (.int .u32 1065353216), .v (.int .u32 1065353216), .v (.int .u32 1065353216)], .arr 0 [], .arr 0 []]]
def r8_1 : AV := .tuple [.agg [.v (.int .i64 1), .fresh 1 4 [.v (.int .i64 1), .v (.int .i64 1), .v (.int .i64 2), .v (.int .i64 1)], .fresh 1 2 [.v (.int .u32 1077936128), .v (.int .u32 1103101952)], .fresh 1 0 [], .fresh 1 0 []], .v (.int .i64 0)]
theorem p8_1 : k8 a8_1 = some r8_1 := by kernel_rfl
noncomputable def z8 : List AV → Option AV := fun xs => if sameL (sameA 8) xs a8_0 = true then some r8_0 else if sameL (sameA 8) xs a8_1 = true then some r8_1 else k8 xs
noncomputable def c71 : CallP := orC 8 z8 c70
theorem k8_ok (args : List AV) (r : AV) (h : k8 args = some r) : PureOK Tryz.prog 8 args r := by
  unfold k8 at h
  exact bodyP_ok mixed c70_ok q3_ok i8 h
theorem c71_ok : CpOK Tryz.prog c71 := orC_ok c70_ok fun args r h => by
  unfold z8 at h
  by_cases h0 : sameL (sameA 8) args a8_0 = true
  · rw [if_pos h0] at h; injection h with h; subst h; rw [sameL_eq (sameA_eq 8) h0]; exact k8_ok _ _ p8_0
  rw [if_neg h0] at h
  by_cases h1 : sameL (sameA 8) args a8_1 = true
  · rw [if_pos h1] at h; injection h with h; subst h; rw [sameL_eq (sameA_eq 8) h1]; exact k8_ok _ _ p8_1
  rw [if_neg h1] at h
  exact k8_ok _ _ h
/-! 9: lattice/latticelaw15.floats -/
def d9 : List (Nat × List Nat) := [(0, []), (0, []), (0, [0, 1, 5, 6, 7])]
noncomputable def n9 : FInfo := ⟨bodyOf Tryz.f9, [.cell 4 28], [28]⟩
theorem i9 : finfo Tryz.prog 9 d9 = some n9 := finfo_at Tryz.func9 rfl (by kernel_rfl) (by kernel_rfl)
noncomputable def c72 : CallP := orC 9 (fun xs => bodyP Tryz.prog inl c71 q3 100 d9 n9 xs) c71
theorem c72_ok : CpOK Tryz.prog c72 := orC_ok c71_ok fun args r h => bodyP_ok mixed c71_ok q3_ok i9 h
/-! 12: lattice/latticeref04.SameInts -/
def d12 : List (Nat × List Nat) := [(0, [4]), (0, [0, 1, 5]), (0, [6, 7, 8, 9]), (0, []), (0, []), (0, []), (0, []), (0, []), (0, [11, 12, 13]), (0, []), (0, [15, 16]), (0, []), (9, [17, 18, 19, 20, 21, 22, 23, 24]), (0, []), (0, []), (0, []), (0, [])]
noncomputable def n12 : FInfo := ⟨bodyOf Tryz.f12, [.tmp 4], [4]⟩
theorem i12 : finfo Tryz.prog 12 d12 = some n12 := finfo_at Tryz.func12 rfl (by kernel_rfl) (by kernel_rfl)
noncomputable def c73 : CallP := orC 12 (fun xs => bodyP Tryz.prog inl c72 q3 100 d12 n12 xs) c72
theorem c73_ok : CpOK Tryz.prog c73 := orC_ok c72_ok fun args r h => bodyP_ok mixed c72_ok q3_ok i12 h
/-! 31: lattice/conv.many -/
def d31 : List (Nat × List Nat) := [(0, [4]), (0, []), (0, [0, 1, 5, 6, 7, 8, 9, 10, 11, 12, 13])]
noncomputable def n31 : FInfo := ⟨bodyOf Tryz.f31, [.tmp 4], [4]⟩
theorem i31 : finfo Tryz.prog 31 d31 = some n31 := finfo_at Tryz.func31 rfl (by kernel_rfl) (by kernel_rfl)
noncomputable def c74 : CallP := orC 31 (fun xs => bodyP Tryz.prog inl c73 q3 100 d31 n31 xs) c73
theorem c74_ok : CpOK Tryz.prog c74 := orC_ok c73_ok fun args r h => bodyP_ok mixed c73_ok q3_ok i31 h
/-! 18: lattice/conv.Cells -/
def d18 : List (Nat × List Nat) := [(0, [0, 14, 15]), (0, [1, 3, 4, 5, 6, 18, 20, 127, 128]), (0, [16, 30, 31, 32, 33, 34]), (0, []), (0, [17, 35, 36, 37, 38, 39, 40, 41, 42, 43, 44, 45, 46, 47, 48, 49, 50, 51, 52, 53, 54, 55, 56, 57, 58, 59, 60, 61, 62, 63, 64, 65, 66, 67, 68, 69, 70, 71, 72, 73, 74, 75, 76, 77, 78, 79, 80, 81]), (0, [24, 25, 138, 139]), (0, []), (0, []), (16076518010639932100241771099918398596490159097216, [83, 84, 85, 86, 87, 88, 89, 90, 91]), (0, []), (16076518010639932100241771099918398596490159097216, [7, 92, 93, 94, 95, 96, 97, 98, 99, 100]), (0, []), (0, [19, 21, 101, 102, 103, 104, 105, 106, 107, 108, 109, 110, 111, 112, 113, 114, 115, 116, 117, 118, 119, 120, 121, 122, 123, 124, 125]), (0, []), (0, []), (0, []), (0, [1000022]), (0, []), (0, [2]), (0, []), (0, []), (0, []), (0, [130]), (0, []), (0, [23, 131, 132, 133, 134, 135, 136, 137]), (0, []), (0, []), (0, []), (0, []), (0, []), (0, [141]), (0, []), (0, []), (0, []), (0, [26, 142, 143, 144, 145, 146, 147, 148]), (0, []), (0, [29, 149, 150, 151]), (0, []), (14, [153, 154, 155, 156, 157, 158, 159, 160, 161, 162, 163, 164, 165]), (0, []), (0, [27, 28, 166, 167, 168, 169]), (0, []), (0, [170]), (0, []), (0, [171]), (0, []), (0, [22, 172])]
noncomputable def n18 : FInfo := ⟨bodyOf Tryz.f18, [.tmp 14, .tmp 15], [22, 32]⟩
theorem i18 : finfo Tryz.prog 18 d18 = some n18 := finfo_at Tryz.func18 rfl (by kernel_rfl) (by kernel_rfl)
noncomputable def k18 : List AV → Option AV := fun xs => bodyP Tryz.prog inl c74 q3 100 d18 n18 xs
def a18_0 : List AV := [.agg [.v (.int .i64 0), .arr 0 [], .v (.bool false), .v (.bool false), .v (.bool false), .v (.bool false), .v (.bool false), .arr 0 [], .v (.bool false), .v (.int .u32 0), .v (.int .u32 0), .v (.int .u32 0), .v (.bool false), .v (.bool false), .v (.bool false), .v (.int .i64 0), .v (.int .i64 0), .v (.bool false), .v (.bool false), .v (.int .i64 0), .arr 0 [], .arr 0 [], .arr 4 [.v (.int .i64 1), .v (.int .i64 1), .v (.int .i64 0), .v (.int .i64 0)], .arr 0 [], .v (.int .i64 0), .v (.bool false), .v (.bool false), .v (.int .i64 0), .v (.int .i64 0), .v (.int .i64 0), .v (.bool false), .v (.int .i64 0), .arr 0 [], .arr 0 [], .arr 0 [], .arr 0 []], .arr 4 [.v (.int .i64 1), .v (.int .i64 1), .v (.int .i64 3), .v (.int .i64 3)], .v (.int .i64 2), .v (.int .i64 2), .v (.int .i64 0), .v (.int .i64 0), .v (.int .i64 0)]
def r18_0 : AV := .tuple [.fresh 1 4 [.v (.int .i64 (-1)), .v (.int .i64 (-1)), .v (.int .i64 (-1)), .v (.int .i64 0)], .v (.int .i64 0)]
theorem p18_0 : k18 a18_0 = some r18_0 := by kernel_rfl
noncomputable def z18 : List AV → Option AV := fun xs => if sameL (sameA 8) xs a18_0 = true then some r18_0 else k18 xs
noncomputable def c75 : CallP := orC 18 z18 c74
theorem k18_ok (args : List AV) (r : AV) (h : k18 args = some r) : PureOK Tryz.prog 18 args r := by
  unfold k18 at h
  exact bodyP_ok mixed c74_ok q3_ok i18 h
theorem c75_ok : CpOK Tryz.prog c75 := orC_ok c74_ok fun args r h => by
  unfold z18 at h
  by_cases h0 : sameL (sameA 8) args a18_0 = true
  · rw [if_pos h0] at h; injection h with h; subst h; rw [sameL_eq (sameA_eq 8) h0]; exact k18_ok _ _ p18_0
  rw [if_neg h0] at h
  exact k18_ok _ _ h
/-! 7: lattice/latticelaw15.awake -/
def d7 : List (Nat × List Nat) := [(0, [0]), (0, []), (0, [9, 10, 11]), (0, []), (0, [12, 13, 14]), (0, []), (0, [15, 16, 17, 18, 19, 20, 21, 22]), (0, []), (0, [1, 2, 23, 24, 25, 26, 27, 28, 29, 30, 31, 32]), (0, []), (0, [33, 34, 35, 36, 37, 38, 39]), (0, []), (0, [40, 41, 42, 43, 44, 45, 46, 47, 48]), (0, []), (0, []), (0, []), (0, [3, 4, 5, 6, 7, 8, 50, 51, 52, 53, 54, 55, 56, 57, 58, 59, 60, 61, 62, 63, 64, 65, 66, 67, 68, 69, 70, 71, 72, 73, 74, 75, 76, 77, 78, 79, 80, 81, 82, 83, 84, 85, 86, 87, 88, 89, 90, 91, 92])]
noncomputable def n7 : FInfo := ⟨bodyOf Tryz.f7, [.tmp 0], [4]⟩
theorem i7 : finfo Tryz.prog 7 d7 = some n7 := finfo_at Tryz.func7 rfl (by kernel_rfl) (by kernel_rfl)
noncomputable def c76 : CallP := orC 7 (fun xs => bodyP Tryz.prog inl c75 q3 100 d7 n7 xs) c75
theorem c76_ok : CpOK Tryz.prog c76 := orC_ok c75_ok fun args r h => bodyP_ok mixed c75_ok q3_ok i7 h
theorem aw7 : c76 7 [] = some (.v (.bool true)) := by kernel_rfl
end Aw
theorem awake7 : PureOK Tryz.prog 7 [] (.v (.bool true)) := Aw.c76_ok 7 [] _ Aw.aw7
theorem closed86 : PureOK Tryz.prog 86 [.v (.int .i64 75)] (.tuple [.v (.int .i64 2), .v (.int .i64 3), .v (.int .i64 1), .v (.int .i64 1)]) := Aw.k86_ok _ _ Aw.p86_0
theorem closed37 : PureOK Tryz.prog 37 [.v (.int .i64 75), .agg [.v (.int .i64 0), .arr 0 [], .v (.bool false), .v (.bool false), .v (.bool false), .v (.bool false), .v (.bool false), .arr 0 [], .v (.bool false), .v (.int .u32 0), .v (.int .u32 0), .v (.int .u32 0), .v (.bool false), .v (.bool false), .v (.bool false), .v (.int .i64 0), .v (.int .i64 0), .v (.bool false), .v (.bool false), .v (.int .i64 1), .arr 0 [], .arr 0 [], .arr 0 [], .arr 0 [], .v (.int .i64 0), .v (.bool false), .v (.bool false), .v (.int .i64 0), .v (.int .i64 0), .v (.int .i64 0), .v (.bool false), .v (.int .i64 0), .arr 0 [], .arr 0 [], .arr 0 [], .arr 0 []], .arr 2 [.v (.int .i64 1), .arr 4 [.v (.int .i64 1), .v (.int .i64 1), .v (.int .i64 3), .v (.int .i64 3)], .v (.bool true), .v (.int .i64 1), .arr 4 [.v (.int .i64 1), .v (.int .i64 1), .v (.int .i64 3), .v (.int .i64 3)], .arr 9 [.v (.int .u32 1065353216), .v (.int .u32 1073741824), .v (.int .u32 1077936128), .v (.int .u32 1082130432), .v (.int .u32 1084227584), .v (.int .u32 1086324736), .v (.int .u32 1088421888), .v (.int .u32 1090519040), .v (.int .u32 1091567616)], .arr 0 [], .arr 0 [], .v (.int .i64 1), .arr 4 [.v (.int .i64 1), .v (.int .i64 1), .v (.int .i64 2), .v (.int .i64 2)], .v (.bool true), .v (.int .i64 1), .arr 4 [.v (.int .i64 1), .v (.int .i64 1), .v (.int .i64 2), .v (.int .i64 2)], .arr 4 [.v (.int .u32 1065353216), .v (.int .u32 1065353216), .v (.int .u32 1065353216), .v (.int .u32 1065353216)], .arr 0 [], .arr 0 []], .v (.int .i64 1)] (.tuple [.fresh 8 1 [.v (.int .i64 1), .arr 4 [.v (.int .i64 1), .v (.int .i64 1), .v (.int .i64 2), .v (.int .i64 2)], .v (.bool false), .v (.int .i64 0), .arr 0 [], .arr 0 [], .arr 0 [], .arr 0 []], .v (.int .i64 0)]) := Aw.k37_ok _ _ Aw.p37_0
theorem closed40 : PureOK Tryz.prog 40 [.arr 4 [.v (.int .i64 1), .v (.int .i64 1), .v (.int .i64 2), .v (.int .i64 1)], .v (.int .i64 0)] (.tuple [.fresh 1 4 [.v (.int .i64 0), .v (.int .i64 0), .v (.int .i64 0), .v (.int .i64 0)], .v (.int .i64 0)]) := Aw.k40_ok _ _ Aw.p40_0
theorem closed8 : PureOK Tryz.prog 8 [.v (.int .i64 75), .agg [.v (.int .i64 0), .arr 0 [], .v (.bool false), .v (.bool false), .v (.bool false), .v (.bool false), .v (.bool false), .arr 0 [], .v (.bool false), .v (.int .u32 0), .v (.int .u32 0), .v (.int .u32 0), .v (.bool false), .v (.bool false), .v (.bool false), .v (.int .i64 0), .v (.int .i64 0), .v (.bool false), .v (.bool false), .v (.int .i64 1), .arr 0 [], .arr 0 [], .arr 0 [], .arr 0 [], .v (.int .i64 0), .v (.bool false), .v (.bool false), .v (.int .i64 0), .v (.int .i64 0), .v (.int .i64 0), .v (.bool false), .v (.int .i64 0), .arr 0 [], .arr 0 [], .arr 0 [], .arr 0 []], .arr 2 [.v (.int .i64 1), .arr 4 [.v (.int .i64 1), .v (.int .i64 1), .v (.int .i64 3), .v (.int .i64 3)], .arr 9 [.v (.int .u32 1065353216), .v (.int .u32 1073741824), .v (.int .u32 1077936128), .v (.int .u32 1082130432), .v (.int .u32 1084227584), .v (.int .u32 1086324736), .v (.int .u32 1088421888), .v (.int .u32 1090519040), .v (.int .u32 1091567616)], .arr 0 [], .arr 0 [], .v (.int .i64 1), .arr 4 [.v (.int .i64 1), .v (.int .i64 1), .v (.int .i64 2), .v (.int .i64 2)], .arr 4 [.v (.int .u32 1065353216), .v (.int .u32 1065353216), .v (.int .u32 1065353216), .v (.int .u32 1065353216)], .arr 0 [], .arr 0 []]] (.tuple [.agg [.v (.int .i64 1), .fresh 1 4 [.v (.int .i64 1), .v (.int .i64 1), .v (.int .i64 2), .v (.int .i64 2)], .fresh 1 4 [.v (.int .u32 1094713344), .v (.int .u32 1098907648), .v (.int .u32 1103101952), .v (.int .u32 1105199104)], .fresh 1 0 [], .fresh 1 0 []], .v (.int .i64 0)]) := Aw.k8_ok _ _ Aw.p8_0
theorem closed18 : PureOK Tryz.prog 18 [.agg [.v (.int .i64 0), .arr 0 [], .v (.bool false), .v (.bool false), .v (.bool false), .v (.bool false), .v (.bool false), .arr 0 [], .v (.bool false), .v (.int .u32 0), .v (.int .u32 0), .v (.int .u32 0), .v (.bool false), .v (.bool false), .v (.bool false), .v (.int .i64 0), .v (.int .i64 0), .v (.bool false), .v (.bool false), .v (.int .i64 0), .arr 0 [], .arr 0 [], .arr 4 [.v (.int .i64 1), .v (.int .i64 1), .v (.int .i64 0), .v (.int .i64 0)], .arr 0 [], .v (.int .i64 0), .v (.bool false), .v (.bool false), .v (.int .i64 0), .v (.int .i64 0), .v (.int .i64 0), .v (.bool false), .v (.int .i64 0), .arr 0 [], .arr 0 [], .arr 0 [], .arr 0 []], .arr 4 [.v (.int .i64 1), .v (.int .i64 1), .v (.int .i64 3), .v (.int .i64 3)], .v (.int .i64 2), .v (.int .i64 2), .v (.int .i64 0), .v (.int .i64 0), .v (.int .i64 0)] (.tuple [.fresh 1 4 [.v (.int .i64 (-1)), .v (.int .i64 (-1)), .v (.int .i64 (-1)), .v (.int .i64 0)], .v (.int .i64 0)]) := Aw.k18_ok _ _ Aw.p18_0
end Go.Av
