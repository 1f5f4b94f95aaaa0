/- The documents' examples, reckoned by the interpreter itself. Made by a program of mine. Conditions: none. -/
import Derived.Test.YteiabmkcmmbbjaaGreatSl
import Derived.Test.YteiabmkcmmbbjaaGreatProg
set_option linter.unusedVariables false
set_option linter.defProp false
set_option maxRecDepth 100000
open Go Go.Proofs
namespace Go.Av
namespace Aw
def bodyOf (f : Func) : Code := f.body.getD .skip
theorem mixed : Tryz.prog.follows .mixedOrders = true := by kernel_rfl
def inl : Cfg := inlC [64, 65, 67, 237]
def c0 : CallP := noP
def q0 : CallI := noI
theorem c0_ok : CpOK Tryz.prog c0 := noP_ok
theorem q0_ok : CiOK Tryz.prog q0 := noI_ok
/-! 68: lattice/soft.open -/
def d68 : List (Nat × List Nat) := [(0, []), (0, [3, 4]), (0, [6, 7, 8, 9]), (0, []), (0, [10, 11, 12]), (0, []), (0, [0, 13, 14, 15, 16]), (0, []), (0, [17, 18, 19, 20, 21, 22]), (0, []), (0, [24, 25]), (0, []), (0, [26, 27, 28]), (0, []), (0, [29, 30, 31]), (0, []), (0, [33, 34]), (0, []), (0, [35, 36, 37]), (0, []), (0, [5, 38])]
noncomputable def n68 : FInfo := ⟨bodyOf Tryz.f68, [.cell 2 98], [98]⟩
theorem i68 : finfo Tryz.prog 68 d68 = some n68 := finfo_at Tryz.func68 rfl (by kernel_rfl) (by kernel_rfl)
noncomputable def c1 : CallP := orC 68 (fun xs => bodyP Tryz.prog inl c0 q0 100 d68 n68 xs) c0
theorem c1_ok : CpOK Tryz.prog c1 := orC_ok c0_ok fun args r h => bodyP_ok mixed c0_ok q0_ok i68 h
/-! 71: lattice/soft.sign -/
def d71 : List (Nat × List Nat) := [(0, [2]), (0, []), (0, [0]), (0, []), (0, []), (0, []), (0, [])]
noncomputable def n71 : FInfo := ⟨bodyOf Tryz.f71, [.tmp 2], [24]⟩
theorem i71 : finfo Tryz.prog 71 d71 = some n71 := finfo_at Tryz.func71 rfl (by kernel_rfl) (by kernel_rfl)
noncomputable def c2 : CallP := orC 71 (fun xs => bodyP Tryz.prog inl c1 q0 100 d71 n71 xs) c1
theorem c2_ok : CpOK Tryz.prog c2 := orC_ok c1_ok fun args r h => bodyP_ok mixed c1_ok q0_ok i71 h
/-! 69: lattice/soft.nought -/
def d69 : List (Nat × List Nat) := [(0, [2]), (0, []), (0, [0, 3, 4, 5])]
noncomputable def n69 : FInfo := ⟨bodyOf Tryz.f69, [.tmp 2], [24]⟩
theorem i69 : finfo Tryz.prog 69 d69 = some n69 := finfo_at Tryz.func69 rfl (by kernel_rfl) (by kernel_rfl)
noncomputable def c3 : CallP := orC 69 (fun xs => bodyP Tryz.prog inl c2 q0 100 d69 n69 xs) c2
theorem c3_ok : CpOK Tryz.prog c3 := orC_ok c2_ok fun args r h => bodyP_ok mixed c2_ok q0_ok i69 h
/-! 131: math/bits.Len64 -/
def d131 : List (Nat × List Nat) := [(0, []), (0, []), (0, [3]), (0, []), (0, [5, 6]), (0, []), (0, []), (0, []), (0, [7]), (0, []), (0, [9, 10]), (0, []), (0, [11, 12]), (0, []), (0, [13]), (0, []), (0, [15, 16]), (0, []), (0, [17, 18]), (0, []), (0, [0, 19, 20, 21, 22, 23, 24])]
noncomputable def n131 : FInfo := ⟨bodyOf Tryz.f131, [.tmp 2], [3]⟩
theorem i131 : finfo Tryz.prog 131 d131 = some n131 := finfo_at Tryz.func131 rfl (by kernel_rfl) (by kernel_rfl)
noncomputable def c4 : CallP := orC 131 (fun xs => bodyP Tryz.prog inl c3 q0 100 d131 n131 xs) c3
theorem c4_ok : CpOK Tryz.prog c4 := orC_ok c3_ok fun args r h => bodyP_ok mixed c3_ok q0_ok i131 h
/-! 70: lattice/soft.Round -/
def d70 : List (Nat × List Nat) := [(0, [10]), (0, []), (0, [21, 22]), (0, [3, 4, 11]), (0, [24, 25, 26, 27, 28, 29]), (0, [14, 15, 16, 99, 111]), (0, [30, 31]), (0, []), (0, [33, 34, 35, 36, 37, 38]), (0, []), (0, [39, 40, 41]), (0, []), (0, [43, 44]), (0, []), (0, [45, 46, 47]), (0, []), (0, [48, 49, 50, 51, 52]), (0, []), (0, []), (0, []), (0, [53]), (0, []), (0, [54, 55, 56]), (0, []), (0, [57, 58, 59, 60, 61]), (0, []), (0, [62, 63, 64]), (0, []), (0, [65, 66, 67, 68, 69, 70, 71, 72, 73, 74, 75]), (0, []), (0, [18, 76, 77, 78, 79, 80, 81, 82]), (0, []), (0, [17, 83, 84, 85, 86, 87]), (0, []), (0, [89, 90]), (0, []), (0, [91, 92, 93, 94]), (0, []), (0, [96, 97, 98]), (0, []), (0, []), (0, []), (0, []), (0, []), (0, [100, 101, 102, 103, 104, 105, 106, 107]), (0, []), (0, [109, 110]), (0, []), (0, [112]), (0, []), (0, [113]), (0, []), (0, [114, 115, 116, 117, 118]), (0, []), (0, [120, 121]), (0, []), (0, [2, 12, 122, 123, 124]), (0, []), (0, [125]), (0, []), (0, [127, 128]), (0, []), (0, [129]), (0, []), (0, [131, 132, 133]), (0, []), (0, [13, 19, 134, 135, 136, 137, 138, 139]), (0, []), (0, [140]), (0, []), (0, [142, 143, 144]), (0, []), (0, [0, 1, 20, 145, 146, 147, 148, 149]), (0, []), (0, []), (0, []), (0, []), (0, []), (0, []), (0, []), (0, []), (0, []), (0, []), (0, []), (0, []), (0, []), (0, []), (0, []), (0, []), (0, []), (0, []), (0, []), (0, []), (0, []), (0, []), (0, []), (0, []), (0, []), (0, []), (0, []), (0, []), (0, []), (0, []), (0, []), (0, []), (0, []), (0, []), (0, []), (0, []), (0, []), (0, []), (0, []), (0, []), (0, []), (0, []), (0, []), (0, []), (0, []), (0, []), (0, []), (0, []), (0, []), (0, []), (0, []), (0, []), (0, []), (0, []), (0, []), (0, []), (0, []), (0, []), (0, []), (0, []), (0, []), (0, []), (0, []), (0, []), (0, []), (0, []), (0, []), (0, []), (0, []), (0, []), (0, []), (0, []), (0, []), (0, []), (0, []), (0, []), (0, []), (0, []), (0, []), (0, []), (0, []), (0, []), (0, []), (0, []), (0, []), (0, []), (0, []), (0, []), (0, []), (0, []), (0, []), (0, []), (0, []), (0, []), (0, []), (0, []), (0, []), (0, []), (0, []), (0, []), (0, []), (0, []), (0, []), (0, []), (0, []), (0, []), (0, []), (0, []), (0, []), (0, []), (0, []), (0, []), (0, []), (0, []), (0, []), (0, []), (0, []), (0, []), (0, []), (0, []), (0, []), (0, []), (0, []), (0, []), (0, []), (0, []), (0, []), (0, []), (0, []), (0, []), (0, []), (0, []), (0, []), (0, []), (0, []), (0, []), (0, []), (0, []), (0, []), (0, []), (0, []), (0, []), (0, []), (0, []), (0, []), (0, []), (0, []), (0, []), (0, []), (0, []), (1, [])]
noncomputable def n70 : FInfo := ⟨bodyOf Tryz.f70, [.tmp 10], [24]⟩
theorem i70 : finfo Tryz.prog 70 d70 = some n70 := finfo_at Tryz.func70 rfl (by kernel_rfl) (by kernel_rfl)
noncomputable def c5 : CallP := orC 70 (fun xs => bodyP Tryz.prog inl c4 q0 100 d70 n70 xs) c4
theorem c5_ok : CpOK Tryz.prog c5 := orC_ok c4_ok fun args r h => bodyP_ok mixed c4_ok q0_ok i70 h
/-! 37: lattice/soft.AddBy -/
def d37 : List (Nat × List Nat) := [(0, [6]), (0, [1, 2]), (0, [14, 15, 16, 17]), (0, [7, 13]), (0, [19, 20, 21, 22, 23, 24, 25, 26, 27, 28, 29, 30, 31, 32, 33, 34, 35, 36, 37, 38, 39]), (0, []), (0, []), (0, []), (0, [41, 42]), (0, []), (0, [43]), (0, []), (0, [45, 46]), (0, []), (0, [47]), (0, []), (0, [49, 50, 51, 52, 53, 54, 55, 56]), (0, []), (0, [57, 58]), (0, []), (0, [60]), (0, []), (0, [61, 62]), (0, []), (0, [63, 64, 65, 66]), (0, []), (0, [68, 69]), (0, []), (0, [70, 71, 72, 73, 74]), (0, []), (10, [75, 76, 77, 78, 79, 80]), (0, []), (0, [81]), (0, []), (0, [83, 84, 85]), (0, []), (0, [86, 87]), (0, []), (0, [88, 89, 90]), (0, []), (0, [91, 92, 93, 94, 95]), (0, []), (8, [96, 97, 98, 99, 100, 101, 102]), (0, []), (0, [9, 104, 105, 106, 107, 108]), (0, []), (0, [109, 110, 111, 112, 113, 114, 115, 116, 117]), (0, []), (0, [119]), (0, []), (0, [120, 121, 122, 123, 124, 125, 126, 127, 128]), (0, []), (0, [130, 131, 132]), (0, []), (0, [133, 134]), (0, []), (0, [136, 137, 138]), (0, []), (0, [139, 140, 141, 142, 143, 144, 145, 146]), (0, []), (0, [0, 8, 10, 11, 12, 147, 148, 149, 150, 151, 152, 153, 154])]
noncomputable def n37 : FInfo := ⟨bodyOf Tryz.f37, [.tmp 6], [24]⟩
theorem i37 : finfo Tryz.prog 37 d37 = some n37 := finfo_at Tryz.func37 rfl (by kernel_rfl) (by kernel_rfl)
noncomputable def c6 : CallP := orC 37 (fun xs => bodyP Tryz.prog inl c5 q0 100 d37 n37 xs) c5
theorem c6_ok : CpOK Tryz.prog c6 := orC_ok c5_ok fun args r h => bodyP_ok mixed c5_ok q0_ok i37 h
/-! 17: lattice/soft.Add -/
def d17 : List (Nat × List Nat) := [(0, [4]), (0, []), (0, [0, 1, 5, 6, 7])]
noncomputable def n17 : FInfo := ⟨bodyOf Tryz.f17, [.tmp 4], [24]⟩
theorem i17 : finfo Tryz.prog 17 d17 = some n17 := finfo_at Tryz.func17 rfl (by kernel_rfl) (by kernel_rfl)
noncomputable def c7 : CallP := orC 17 (fun xs => bodyP Tryz.prog inl c6 q0 100 d17 n17 xs) c6
theorem c7_ok : CpOK Tryz.prog c7 := orC_ok c6_ok fun args r h => bodyP_ok mixed c6_ok q0_ok i17 h
/-! 18: (lattice/quick.lanes).whole -/
def d18 : List (Nat × List Nat) := [(0, [0, 2]), (0, []), (12, [1, 3, 4, 5, 6, 7, 8, 9, 10, 11, 12, 13])]
noncomputable def n18 : FInfo := ⟨bodyOf Tryz.f18, [.tmp 2], [24]⟩
theorem i18 : finfo Tryz.prog 18 d18 = some n18 := finfo_at Tryz.func18 rfl (by kernel_rfl) (by kernel_rfl)
noncomputable def c8 : CallP := orC 18 (fun xs => bodyP Tryz.prog inl c7 q0 100 d18 n18 xs) c7
theorem c8_ok : CpOK Tryz.prog c8 := orC_ok c7_ok fun args r h => bodyP_ok mixed c7_ok q0_ok i18 h
/-! 6: lattice/quick.Sum -/
def d6 : List (Nat × List Nat) := [(0, [2]), (0, [6, 7, 8]), (0, []), (0, []), (0, [0]), (0, []), (0, []), (0, []), (0, [10, 11, 12]), (0, []), (0, [4, 5, 13, 14, 15, 16, 17, 18, 19, 20, 21]), (0, []), (0, [22]), (0, []), (0, [3, 23, 24])]
noncomputable def n6 : FInfo := ⟨bodyOf Tryz.f6, [.tmp 2], [24]⟩
theorem i6 : finfo Tryz.prog 6 d6 = some n6 := finfo_at Tryz.func6 rfl (by kernel_rfl) (by kernel_rfl)
noncomputable def c9 : CallP := orC 6 (fun xs => bodyP Tryz.prog inl c8 q0 100 d6 n6 xs) c8
theorem c9_ok : CpOK Tryz.prog c9 := orC_ok c8_ok fun args r h => bodyP_ok mixed c8_ok q0_ok i6 h
/-! 38: lattice/soft.MulBy -/
def d38 : List (Nat × List Nat) := [(0, [6]), (0, []), (0, [1, 2, 10, 11, 12, 13]), (0, []), (0, [14, 15, 16, 17, 18]), (0, []), (0, [20, 21, 22, 23, 24, 25, 26, 27, 28, 29, 30, 31, 32, 33, 34, 35, 36, 37, 38, 39, 40, 41, 42, 43, 44, 45, 46, 47, 48, 49, 50, 51, 52, 53]), (0, []), (0, []), (0, []), (0, [55, 56, 57, 58, 59, 60]), (0, []), (0, [61, 62, 63]), (0, []), (0, [0, 7, 8, 9, 64, 65, 66, 67, 68, 69, 70, 71, 72, 73, 74, 75, 76])]
noncomputable def n38 : FInfo := ⟨bodyOf Tryz.f38, [.tmp 6], [24]⟩
theorem i38 : finfo Tryz.prog 38 d38 = some n38 := finfo_at Tryz.func38 rfl (by kernel_rfl) (by kernel_rfl)
noncomputable def c10 : CallP := orC 38 (fun xs => bodyP Tryz.prog inl c9 q0 100 d38 n38 xs) c9
theorem c10_ok : CpOK Tryz.prog c10 := orC_ok c9_ok fun args r h => bodyP_ok mixed c9_ok q0_ok i38 h
/-! 20: lattice/soft.Mul -/
def d20 : List (Nat × List Nat) := [(0, [4]), (0, []), (0, [0, 1, 5, 6, 7])]
noncomputable def n20 : FInfo := ⟨bodyOf Tryz.f20, [.tmp 4], [24]⟩
theorem i20 : finfo Tryz.prog 20 d20 = some n20 := finfo_at Tryz.func20 rfl (by kernel_rfl) (by kernel_rfl)
noncomputable def c11 : CallP := orC 20 (fun xs => bodyP Tryz.prog inl c10 q0 100 d20 n20 xs) c10
theorem c11_ok : CpOK Tryz.prog c11 := orC_ok c10_ok fun args r h => bodyP_ok mixed c10_ok q0_ok i20 h
/-! 8: lattice/quick.Dot -/
def d8 : List (Nat × List Nat) := [(0, [4]), (0, [0, 1, 11, 12]), (0, []), (0, []), (0, [7, 8, 9, 10]), (0, []), (0, []), (0, []), (0, [14]), (0, []), (17, [6, 15, 16, 17, 18, 19, 20, 21, 22, 23, 24, 25, 26, 27, 28, 29, 30, 31]), (0, []), (0, [32]), (0, []), (0, [5, 33, 34])]
noncomputable def n8 : FInfo := ⟨bodyOf Tryz.f8, [.tmp 4], [24]⟩
theorem i8 : finfo Tryz.prog 8 d8 = some n8 := finfo_at Tryz.func8 rfl (by kernel_rfl) (by kernel_rfl)
noncomputable def c12 : CallP := orC 8 (fun xs => bodyP Tryz.prog inl c11 q0 100 d8 n8 xs) c11
theorem c12_ok : CpOK Tryz.prog c12 := orC_ok c11_ok fun args r h => bodyP_ok mixed c11_ok q0_ok i8 h
/-! 99: lattice/soft.Neg -/
def d99 : List (Nat × List Nat) := [(0, [2]), (0, []), (0, [0, 3, 4])]
noncomputable def n99 : FInfo := ⟨bodyOf Tryz.f99, [.tmp 2], [24]⟩
theorem i99 : finfo Tryz.prog 99 d99 = some n99 := finfo_at Tryz.func99 rfl (by kernel_rfl) (by kernel_rfl)
noncomputable def c13 : CallP := orC 99 (fun xs => bodyP Tryz.prog inl c12 q0 100 d99 n99 xs) c12
theorem c13_ok : CpOK Tryz.prog c13 := orC_ok c12_ok fun args r h => bodyP_ok mixed c12_ok q0_ok i99 h
/-! 49: lattice/soft.Sub -/
def d49 : List (Nat × List Nat) := [(0, [4]), (0, []), (0, [0, 1, 5, 6, 7, 8])]
noncomputable def n49 : FInfo := ⟨bodyOf Tryz.f49, [.tmp 4], [24]⟩
theorem i49 : finfo Tryz.prog 49 d49 = some n49 := finfo_at Tryz.func49 rfl (by kernel_rfl) (by kernel_rfl)
noncomputable def c14 : CallP := orC 49 (fun xs => bodyP Tryz.prog inl c13 q0 100 d49 n49 xs) c13
theorem c14_ok : CpOK Tryz.prog c14 := orC_ok c13_ok fun args r h => bodyP_ok mixed c13_ok q0_ok i49 h
/-! 26: lattice/quick.tile -/
def d26 : List (Nat × List Nat) := [(0, []), (0, []), (0, [0, 1, 2, 3, 9, 10, 11, 12, 13, 14, 15, 16, 17, 18, 19, 20, 21])]
noncomputable def n26 : FInfo := ⟨bodyOf Tryz.f26, [.cell 8 29], [29]⟩
theorem i26 : finfo Tryz.prog 26 d26 = some n26 := finfo_at Tryz.func26 rfl (by kernel_rfl) (by kernel_rfl)
noncomputable def c15 : CallP := orC 26 (fun xs => bodyP Tryz.prog inl c14 q0 100 d26 n26 xs) c14
theorem c15_ok : CpOK Tryz.prog c15 := orC_ok c14_ok fun args r h => bodyP_ok mixed c14_ok q0_ok i26 h
/-! 13: lattice/quick.Tile -/
def d13 : List (Nat × List Nat) := [(0, [0]), (0, [1, 7]), (0, []), (0, []), (0, []), (0, [3, 30]), (0, []), (0, []), (0, [9]), (0, []), (19, [5, 10, 11, 12, 13, 14, 15, 16, 17, 18, 19, 20, 21, 22, 23, 24, 25, 26, 27, 28]), (0, []), (0, [29]), (0, []), (0, []), (0, []), (0, []), (0, []), (0, [32]), (0, []), (19, [6, 33, 34, 35, 36, 37, 38, 39, 40, 41, 42, 43, 44, 45, 46, 47, 48, 49, 50, 51]), (0, []), (0, [52]), (0, []), (0, [4, 53])]
noncomputable def n13 : FInfo := ⟨bodyOf Tryz.f13, [.cell 2 30], [30]⟩
theorem i13 : finfo Tryz.prog 13 d13 = some n13 := finfo_at Tryz.func13 rfl (by kernel_rfl) (by kernel_rfl)
noncomputable def c16 : CallP := orC 13 (fun xs => bodyP Tryz.prog inl c15 q0 100 d13 n13 xs) c15
theorem c16_ok : CpOK Tryz.prog c16 := orC_ok c15_ok fun args r h => bodyP_ok mixed c15_ok q0_ok i13 h
/-! 27: lattice/quick.kernel -/
def d27 : List (Nat × List Nat) := [(0, []), (0, []), (0, [0, 1, 2, 7, 8, 9, 10, 11, 12, 13, 14, 15, 16, 17, 18, 19, 20, 21])]
noncomputable def n27 : FInfo := ⟨bodyOf Tryz.f27, [.cell 6 29], [29]⟩
theorem i27 : finfo Tryz.prog 27 d27 = some n27 := finfo_at Tryz.func27 rfl (by kernel_rfl) (by kernel_rfl)
noncomputable def c17 : CallP := orC 27 (fun xs => bodyP Tryz.prog inl c16 q0 100 d27 n27 xs) c16
theorem c17_ok : CpOK Tryz.prog c17 := orC_ok c16_ok fun args r h => bodyP_ok mixed c16_ok q0_ok i27 h
/-! 14: lattice/quick.Kernel -/
def d14 : List (Nat × List Nat) := [(0, [0]), (0, [1, 7]), (0, []), (0, []), (0, []), (0, [3, 26]), (0, []), (0, []), (0, []), (0, []), (0, [9]), (0, []), (15, [5, 10, 11, 12, 13, 14, 15, 16, 17, 18, 19, 20, 21, 22, 23, 24]), (0, []), (0, [25]), (0, []), (0, []), (0, []), (0, []), (0, []), (0, [28]), (0, []), (15, [6, 29, 30, 31, 32, 33, 34, 35, 36, 37, 38, 39, 40, 41, 42, 43]), (0, []), (0, [44]), (0, []), (0, [4, 45])]
noncomputable def n14 : FInfo := ⟨bodyOf Tryz.f14, [.cell 2 30], [30]⟩
theorem i14 : finfo Tryz.prog 14 d14 = some n14 := finfo_at Tryz.func14 rfl (by kernel_rfl) (by kernel_rfl)
noncomputable def c18 : CallP := orC 14 (fun xs => bodyP Tryz.prog inl c17 q0 100 d14 n14 xs) c17
theorem c18_ok : CpOK Tryz.prog c18 := orC_ok c17_ok fun args r h => bodyP_ok mixed c17_ok q0_ok i14 h
/-! 28: lattice/mat.Has -/
def d28 : List (Nat × List Nat) := [(0, [2]), (0, []), (0, [0, 3, 4, 5, 6, 7, 8])]
noncomputable def n28 : FInfo := ⟨bodyOf Tryz.f28, [.tmp 2], [4]⟩
theorem i28 : finfo Tryz.prog 28 d28 = some n28 := finfo_at Tryz.func28 rfl (by kernel_rfl) (by kernel_rfl)
noncomputable def c19 : CallP := orC 28 (fun xs => bodyP Tryz.prog inl c18 q0 100 d28 n28 xs) c18
theorem c19_ok : CpOK Tryz.prog c19 := orC_ok c18_ok fun args r h => bodyP_ok mixed c18_ok q0_ok i28 h
/-! 59: lattice/shape.Size$1 -/
def d59 : List (Nat × List Nat) := [(0, [2]), (0, []), (0, [0, 3, 4])]
noncomputable def n59 : FInfo := ⟨bodyOf Tryz.f59, [.tmp 2], [4]⟩
theorem i59 : finfo Tryz.prog 59 d59 = some n59 := finfo_at Tryz.func59 rfl (by kernel_rfl) (by kernel_rfl)
noncomputable def c20 : CallP := orC 59 (fun xs => bodyP Tryz.prog inl c19 q0 100 d59 n59 xs) c19
theorem c20_ok : CpOK Tryz.prog c20 := orC_ok c19_ok fun args r h => bodyP_ok mixed c19_ok q0_ok i59 h
/-! 60: lattice/shape.Size$2 -/
def d60 : List (Nat × List Nat) := [(0, [2]), (0, []), (0, [0, 3, 4])]
noncomputable def n60 : FInfo := ⟨bodyOf Tryz.f60, [.tmp 2], [4]⟩
theorem i60 : finfo Tryz.prog 60 d60 = some n60 := finfo_at Tryz.func60 rfl (by kernel_rfl) (by kernel_rfl)
noncomputable def c21 : CallP := orC 60 (fun xs => bodyP Tryz.prog inl c20 q0 100 d60 n60 xs) c20
theorem c21_ok : CpOK Tryz.prog c21 := orC_ok c20_ok fun args r h => bodyP_ok mixed c20_ok q0_ok i60 h
/-! 124: slices.IndexFunc[[]int,int] -/
def d124 : List (Nat × List Nat) := [(0, [4]), (0, [0, 1, 7, 8]), (0, [6]), (0, [5]), (0, []), (0, []), (0, [10]), (0, []), (0, [11, 12, 13, 14, 15]), (0, []), (0, [17]), (0, []), (0, [18]), (0, []), (0, [])]
noncomputable def n124 : FInfo := ⟨bodyOf Tryz.f124, [.tmp 4], [3]⟩
theorem i124 : finfo Tryz.prog 124 d124 = some n124 := finfo_at Tryz.func124 rfl (by kernel_rfl) (by kernel_rfl)
noncomputable def c22 : CallP := orC 124 (fun xs => bodyP Tryz.prog inl c21 q0 100 d124 n124 xs) c21
theorem c22_ok : CpOK Tryz.prog c22 := orC_ok c21_ok fun args r h => bodyP_ok mixed c21_ok q0_ok i124 h
/-! 58: slices.ContainsFunc[[]int,int] -/
def d58 : List (Nat × List Nat) := [(0, [4]), (0, []), (0, [0, 1, 5, 6, 7, 8])]
noncomputable def n58 : FInfo := ⟨bodyOf Tryz.f58, [.tmp 4], [4]⟩
theorem i58 : finfo Tryz.prog 58 d58 = some n58 := finfo_at Tryz.func58 rfl (by kernel_rfl) (by kernel_rfl)
noncomputable def c23 : CallP := orC 58 (fun xs => bodyP Tryz.prog inl c22 q0 100 d58 n58 xs) c22
theorem c23_ok : CpOK Tryz.prog c23 := orC_ok c22_ok fun args r h => bodyP_ok mixed c22_ok q0_ok i58 h
/-! 125: slices.Index[[]int,int] -/
def d125 : List (Nat × List Nat) := [(0, [4]), (0, [0, 1, 7, 8]), (0, [6]), (0, [5]), (0, []), (0, []), (0, [10]), (0, []), (0, [11, 12, 13, 14, 15]), (0, []), (0, [17]), (0, []), (0, [18]), (0, []), (0, [])]
noncomputable def n125 : FInfo := ⟨bodyOf Tryz.f125, [.tmp 4], [3]⟩
theorem i125 : finfo Tryz.prog 125 d125 = some n125 := finfo_at Tryz.func125 rfl (by kernel_rfl) (by kernel_rfl)
noncomputable def c24 : CallP := orC 125 (fun xs => bodyP Tryz.prog inl c23 q0 100 d125 n125 xs) c23
theorem c24_ok : CpOK Tryz.prog c24 := orC_ok c23_ok fun args r h => bodyP_ok mixed c23_ok q0_ok i125 h
/-! 61: slices.Contains[[]int,int] -/
def d61 : List (Nat × List Nat) := [(0, [4]), (0, []), (0, [0, 1, 5, 6, 7, 8])]
noncomputable def n61 : FInfo := ⟨bodyOf Tryz.f61, [.tmp 4], [4]⟩
theorem i61 : finfo Tryz.prog 61 d61 = some n61 := finfo_at Tryz.func61 rfl (by kernel_rfl) (by kernel_rfl)
noncomputable def c25 : CallP := orC 61 (fun xs => bodyP Tryz.prog inl c24 q0 100 d61 n61 xs) c24
theorem c25_ok : CpOK Tryz.prog c25 := orC_ok c24_ok fun args r h => bodyP_ok mixed c24_ok q0_ok i61 h
/-! 65: lattice/mat.product$1 -/
def d65 : List (Nat × List Nat) := [(0, [0, 1, 3, 4, 5, 6])]
noncomputable def n65 : FInfo := ⟨bodyOf Tryz.f65, [], []⟩
theorem i65 : finfo Tryz.prog 65 d65 = some n65 := finfo_at Tryz.func65 rfl (by kernel_rfl) (by kernel_rfl)
noncomputable def q1 : CallI := ciE Tryz.prog inl c25 q0 100 65 d65 n65 q0
theorem q1_ok : CiOK Tryz.prog q1 := ciE_ok mixed c25_ok q0_ok i65 q0_ok
/-! 33: lattice/shape.Size -/
def d33 : List (Nat × List Nat) := [(0, [2, 3]), (0, [18, 19, 20]), (0, [7]), (0, []), (0, []), (0, []), (0, [9, 10, 11, 12, 13, 14]), (0, []), (0, []), (0, []), (0, [16]), (0, []), (0, []), (0, []), (0, []), (0, []), (0, [0]), (0, []), (0, []), (0, []), (0, [22, 23]), (0, []), (0, [24, 25, 26]), (0, []), (0, []), (0, []), (0, [6, 28, 29, 30]), (0, []), (0, [31]), (0, []), (0, [4, 32])]
noncomputable def n33 : FInfo := ⟨bodyOf Tryz.f33, [.tmp 2, .tmp 3], [3, 40]⟩
theorem i33 : finfo Tryz.prog 33 d33 = some n33 := finfo_at Tryz.func33 rfl (by kernel_rfl) (by kernel_rfl)
noncomputable def c26 : CallP := orC 33 (fun xs => bodyP Tryz.prog inl c25 q1 100 d33 n33 xs) c25
theorem c26_ok : CpOK Tryz.prog c26 := orC_ok c25_ok fun args r h => bodyP_ok mixed c25_ok q1_ok i33 h
/-! 100: lattice/tens.Width -/
def d100 : List (Nat × List Nat) := [(0, [2]), (0, [3]), (0, [0]), (0, []), (0, [5]), (0, []), (0, []), (0, []), (0, [7]), (0, []), (0, []), (0, []), (0, [9]), (0, []), (0, []), (0, []), (0, [])]
noncomputable def n100 : FInfo := ⟨bodyOf Tryz.f100, [.tmp 2], [3]⟩
theorem i100 : finfo Tryz.prog 100 d100 = some n100 := finfo_at Tryz.func100 rfl (by kernel_rfl) (by kernel_rfl)
noncomputable def c27 : CallP := orC 100 (fun xs => bodyP Tryz.prog inl c26 q1 100 d100 n100 xs) c26
theorem c27_ok : CpOK Tryz.prog c27 := orC_ok c26_ok fun args r h => bodyP_ok mixed c26_ok q1_ok i100 h
/-! 50: lattice/tens.known -/
def d50 : List (Nat × List Nat) := [(0, [2]), (0, []), (0, [0, 3, 4, 5])]
noncomputable def n50 : FInfo := ⟨bodyOf Tryz.f50, [.tmp 2], [4]⟩
theorem i50 : finfo Tryz.prog 50 d50 = some n50 := finfo_at Tryz.func50 rfl (by kernel_rfl) (by kernel_rfl)
noncomputable def c28 : CallP := orC 50 (fun xs => bodyP Tryz.prog inl c27 q1 100 d50 n50 xs) c27
theorem c28_ok : CpOK Tryz.prog c28 := orC_ok c27_ok fun args r h => bodyP_ok mixed c27_ok q1_ok i50 h
/-! 29: lattice/tens.Check -/
def d29 : List (Nat × List Nat) := [(0, [0, 2]), (0, [23]), (0, [6, 7, 8]), (0, []), (0, []), (0, []), (0, [10, 11, 12, 13, 14, 15]), (0, []), (0, [16]), (0, []), (0, [18]), (0, []), (0, [4, 19, 20, 21]), (0, []), (0, [22]), (0, []), (0, [25]), (0, []), (0, [26, 27, 28]), (0, []), (0, [30]), (0, []), (0, [31, 32, 33]), (0, []), (0, [1, 3, 5, 34, 35, 36, 37, 38, 39, 40, 41, 42, 43, 44, 45, 46, 47, 48, 49, 50]), (0, []), (0, []), (0, []), (0, [])]
noncomputable def n29 : FInfo := ⟨bodyOf Tryz.f29, [.tmp 2], [40]⟩
theorem i29 : finfo Tryz.prog 29 d29 = some n29 := finfo_at Tryz.func29 rfl (by kernel_rfl) (by kernel_rfl)
noncomputable def c29 : CallP := orC 29 (fun xs => bodyP Tryz.prog inl c28 q1 100 d29 n29 xs) c28
theorem c29_ok : CpOK Tryz.prog c29 := orC_ok c28_ok fun args r h => bodyP_ok mixed c28_ok q1_ok i29 h
/-! 101: lattice/tens.own[int] -/
def d101 : List (Nat × List Nat) := [(0, [2]), (0, []), (0, [0, 3, 4, 5])]
noncomputable def n101 : FInfo := ⟨bodyOf Tryz.f101, [.tmp 2], [35]⟩
theorem i101 : finfo Tryz.prog 101 d101 = some n101 := finfo_at Tryz.func101 rfl (by kernel_rfl) (by kernel_rfl)
noncomputable def c30 : CallP := orC 101 (fun xs => bodyP Tryz.prog inl c29 q1 100 d101 n101 xs) c29
theorem c30_ok : CpOK Tryz.prog c30 := orC_ok c29_ok fun args r h => bodyP_ok mixed c29_ok q1_ok i101 h
/-! 102: lattice/tens.own[uint32] -/
def d102 : List (Nat × List Nat) := [(0, [2]), (0, []), (0, [0, 3, 4, 5])]
noncomputable def n102 : FInfo := ⟨bodyOf Tryz.f102, [.tmp 2], [22]⟩
theorem i102 : finfo Tryz.prog 102 d102 = some n102 := finfo_at Tryz.func102 rfl (by kernel_rfl) (by kernel_rfl)
noncomputable def c31 : CallP := orC 102 (fun xs => bodyP Tryz.prog inl c30 q1 100 d102 n102 xs) c30
theorem c31_ok : CpOK Tryz.prog c31 := orC_ok c30_ok fun args r h => bodyP_ok mixed c30_ok q1_ok i102 h
/-! 103: lattice/tens.own[int64] -/
def d103 : List (Nat × List Nat) := [(0, [2]), (0, []), (0, [0, 3, 4, 5])]
noncomputable def n103 : FInfo := ⟨bodyOf Tryz.f103, [.tmp 2], [36]⟩
theorem i103 : finfo Tryz.prog 103 d103 = some n103 := finfo_at Tryz.func103 rfl (by kernel_rfl) (by kernel_rfl)
noncomputable def c32 : CallP := orC 103 (fun xs => bodyP Tryz.prog inl c31 q1 100 d103 n103 xs) c31
theorem c32_ok : CpOK Tryz.prog c32 := orC_ok c31_ok fun args r h => bodyP_ok mixed c31_ok q1_ok i103 h
/-! 104: lattice/tens.own[bool] -/
def d104 : List (Nat × List Nat) := [(0, [2]), (0, []), (0, [0, 3, 4, 5])]
noncomputable def n104 : FInfo := ⟨bodyOf Tryz.f104, [.tmp 2], [37]⟩
theorem i104 : finfo Tryz.prog 104 d104 = some n104 := finfo_at Tryz.func104 rfl (by kernel_rfl) (by kernel_rfl)
noncomputable def c33 : CallP := orC 104 (fun xs => bodyP Tryz.prog inl c32 q1 100 d104 n104 xs) c32
theorem c33_ok : CpOK Tryz.prog c33 := orC_ok c32_ok fun args r h => bodyP_ok mixed c32_ok q1_ok i104 h
/-! 51: lattice/tens.Copy -/
def d51 : List (Nat × List Nat) := [(0, [0]), (0, []), (15, [1, 3, 4, 5, 6, 7, 8, 9, 10, 11, 12, 13, 14, 15, 16, 17])]
noncomputable def n51 : FInfo := ⟨bodyOf Tryz.f51, [.cell 2 39], [39]⟩
theorem i51 : finfo Tryz.prog 51 d51 = some n51 := finfo_at Tryz.func51 rfl (by kernel_rfl) (by kernel_rfl)
noncomputable def c34 : CallP := orC 51 (fun xs => bodyP Tryz.prog inl c33 q1 100 d51 n51 xs) c33
theorem c34_ok : CpOK Tryz.prog c34 := orC_ok c33_ok fun args r h => bodyP_ok mixed c33_ok q1_ok i51 h
/-! 168: lattice/soft.Abs -/
def d168 : List (Nat × List Nat) := [(0, [2]), (0, []), (0, [0, 3, 4])]
noncomputable def n168 : FInfo := ⟨bodyOf Tryz.f168, [.tmp 2], [24]⟩
theorem i168 : finfo Tryz.prog 168 d168 = some n168 := finfo_at Tryz.func168 rfl (by kernel_rfl) (by kernel_rfl)
noncomputable def c35 : CallP := orC 168 (fun xs => bodyP Tryz.prog inl c34 q1 100 d168 n168 xs) c34
theorem c35_ok : CpOK Tryz.prog c35 := orC_ok c34_ok fun args r h => bodyP_ok mixed c34_ok q1_ok i168 h
/-! 105: lattice/soft.NaN -/
def d105 : List (Nat × List Nat) := [(0, [2]), (0, []), (0, [0, 3, 4, 5])]
noncomputable def n105 : FInfo := ⟨bodyOf Tryz.f105, [.tmp 2], [4]⟩
theorem i105 : finfo Tryz.prog 105 d105 = some n105 := finfo_at Tryz.func105 rfl (by kernel_rfl) (by kernel_rfl)
noncomputable def c36 : CallP := orC 105 (fun xs => bodyP Tryz.prog inl c35 q1 100 d105 n105 xs) c35
theorem c36_ok : CpOK Tryz.prog c36 := orC_ok c35_ok fun args r h => bodyP_ok mixed c35_ok q1_ok i105 h
/-! 52: lattice/soft.Canon -/
def d52 : List (Nat × List Nat) := [(0, [2]), (0, []), (0, [3]), (0, []), (0, []), (0, []), (0, [0, 5])]
noncomputable def n52 : FInfo := ⟨bodyOf Tryz.f52, [.tmp 2], [24]⟩
theorem i52 : finfo Tryz.prog 52 d52 = some n52 := finfo_at Tryz.func52 rfl (by kernel_rfl) (by kernel_rfl)
noncomputable def c37 : CallP := orC 52 (fun xs => bodyP Tryz.prog inl c36 q1 100 d52 n52 xs) c36
theorem c37_ok : CpOK Tryz.prog c37 := orC_ok c36_ok fun args r h => bodyP_ok mixed c36_ok q1_ok i52 h
/-! 30: lattice/tens.Canon -/
def d30 : List (Nat × List Nat) := [(0, [0]), (0, [9, 10, 11]), (0, [1, 6, 7]), (0, []), (0, [8]), (0, []), (0, []), (0, []), (0, [13, 14, 15]), (0, []), (6, [4, 5, 16, 17, 18, 19, 20, 21]), (0, []), (0, [22]), (0, []), (0, [3, 23])]
noncomputable def n30 : FInfo := ⟨bodyOf Tryz.f30, [.cell 2 39], [39]⟩
theorem i30 : finfo Tryz.prog 30 d30 = some n30 := finfo_at Tryz.func30 rfl (by kernel_rfl) (by kernel_rfl)
noncomputable def c38 : CallP := orC 30 (fun xs => bodyP Tryz.prog inl c37 q1 100 d30 n30 xs) c37
theorem c38_ok : CpOK Tryz.prog c38 := orC_ok c37_ok fun args r h => bodyP_ok mixed c37_ok q1_ok i30 h
/-! 237: slices.Grow[[]lattice/ops.row,lattice/ops.row] -/
def d237 : List (Nat × List Nat) := [(0, [4]), (0, []), (0, [5]), (0, []), (0, [7]), (0, []), (0, [8, 9, 10, 11, 12, 13, 14]), (0, []), (0, [15]), (0, []), (0, [17, 18, 19, 20, 21, 22, 23, 24, 25]), (0, []), (0, [0, 1, 26, 6000004])]
noncomputable def n237 : FInfo := ⟨bodyOf Tryz.f237, [.tmp 4], [195]⟩
theorem i237 : finfo Tryz.prog 237 d237 = some n237 := finfo_at Tryz.func237 rfl (by kernel_rfl) (by kernel_rfl)
noncomputable def q2 : CallI := ciE Tryz.prog inl c38 q1 100 237 d237 n237 q1
theorem q2_ok : CiOK Tryz.prog q2 := ciE_ok mixed c38_ok q1_ok i237 q1_ok
/-! 224: slices.Concat[[]lattice/ops.row,lattice/ops.row] -/
def d224 : List (Nat × List Nat) := [(0, [2]), (0, [9, 10, 11]), (0, []), (0, []), (0, []), (0, [25, 26, 27]), (0, []), (0, []), (0, [13, 14]), (0, []), (0, [5, 15, 16, 17, 18]), (0, []), (0, [19]), (0, []), (0, [21]), (0, []), (0, [22]), (0, []), (0, [3, 23, 24, 3000000006]), (0, []), (0, [0]), (0, []), (0, []), (0, []), (0, [29, 30]), (0, []), (0, [8, 31, 32, 33]), (0, []), (0, [34]), (0, []), (0, [6, 35])]
noncomputable def n224 : FInfo := ⟨bodyOf Tryz.f224, [.tmp 2], [195]⟩
theorem i224 : finfo Tryz.prog 224 d224 = some n224 := finfo_at Tryz.func224 rfl (by kernel_rfl) (by kernel_rfl)
noncomputable def c39 : CallP := orC 224 (fun xs => bodyP Tryz.prog inl c38 q2 100 d224 n224 xs) c38
theorem c39_ok : CpOK Tryz.prog c39 := orC_ok c38_ok fun args r h => bodyP_ok mixed c38_ok q2_ok i224 h
/-! 225: lattice/ops.each -/
def d225 : List (Nat × List Nat) := [(0, [0]), (0, []), (0, [1, 2, 3, 4, 5, 6, 7, 8, 9, 10, 11, 12, 13, 14, 15, 16, 17, 18, 19, 20, 21, 22, 23, 24, 25, 26, 27, 28, 29, 30, 31, 32, 33, 34, 35, 36, 37, 38, 39, 40, 41, 42, 43, 44, 45])]
noncomputable def n225 : FInfo := ⟨bodyOf Tryz.f225, [.tmp 0], [195]⟩
theorem i225 : finfo Tryz.prog 225 d225 = some n225 := finfo_at Tryz.func225 rfl (by kernel_rfl) (by kernel_rfl)
noncomputable def c40 : CallP := orC 225 (fun xs => bodyP Tryz.prog inl c39 q2 100 d225 n225 xs) c39
theorem c40_ok : CpOK Tryz.prog c40 := orC_ok c39_ok fun args r h => bodyP_ok mixed c39_ok q2_ok i225 h
/-! 226: lattice/ops.moves -/
def d226 : List (Nat × List Nat) := [(0, [0]), (0, []), (0, [1, 2, 3, 4, 5, 6, 7, 8, 9, 10, 11, 12, 13, 14, 15, 16, 17, 18, 19, 20, 21])]
noncomputable def n226 : FInfo := ⟨bodyOf Tryz.f226, [.tmp 0], [195]⟩
theorem i226 : finfo Tryz.prog 226 d226 = some n226 := finfo_at Tryz.func226 rfl (by kernel_rfl) (by kernel_rfl)
noncomputable def c41 : CallP := orC 226 (fun xs => bodyP Tryz.prog inl c40 q2 100 d226 n226 xs) c40
theorem c41_ok : CpOK Tryz.prog c41 := orC_ok c40_ok fun args r h => bodyP_ok mixed c40_ok q2_ok i226 h
/-! 227: lattice/ops.others -/
def d227 : List (Nat × List Nat) := [(0, [0]), (0, []), (0, [1, 2, 3, 4, 5, 6, 7, 8, 9, 10, 11, 12, 13, 14, 15, 16, 17])]
noncomputable def n227 : FInfo := ⟨bodyOf Tryz.f227, [.tmp 0], [195]⟩
theorem i227 : finfo Tryz.prog 227 d227 = some n227 := finfo_at Tryz.func227 rfl (by kernel_rfl) (by kernel_rfl)
noncomputable def c42 : CallP := orC 227 (fun xs => bodyP Tryz.prog inl c41 q2 100 d227 n227 xs) c41
theorem c42_ok : CpOK Tryz.prog c42 := orC_ok c41_ok fun args r h => bodyP_ok mixed c41_ok q2_ok i227 h
/-! 211: lattice/ops.table -/
def d211 : List (Nat × List Nat) := [(0, [0]), (0, []), (0, [1, 2, 3, 4, 5])]
noncomputable def n211 : FInfo := ⟨bodyOf Tryz.f211, [.tmp 0], [195]⟩
theorem i211 : finfo Tryz.prog 211 d211 = some n211 := finfo_at Tryz.func211 rfl (by kernel_rfl) (by kernel_rfl)
noncomputable def c43 : CallP := orC 211 (fun xs => bodyP Tryz.prog inl c42 q2 100 d211 n211 xs) c42
theorem c43_ok : CpOK Tryz.prog c43 := orC_ok c42_ok fun args r h => bodyP_ok mixed c42_ok q2_ok i211 h
/-! 169: lattice/ops.find -/
def d169 : List (Nat × List Nat) := [(0, []), (0, []), (0, [3, 4, 5, 6, 7]), (0, []), (0, [9]), (0, []), (0, [0, 10, 11, 12, 13, 14])]
noncomputable def n169 : FInfo := ⟨bodyOf Tryz.f169, [.cell 2 163], [163]⟩
theorem i169 : finfo Tryz.prog 169 d169 = some n169 := finfo_at Tryz.func169 rfl (by kernel_rfl) (by kernel_rfl)
noncomputable def c44 : CallP := orC 169 (fun xs => bodyP Tryz.prog inl c43 q2 100 d169 n169 xs) c43
theorem c44_ok : CpOK Tryz.prog c44 := orC_ok c43_ok fun args r h => bodyP_ok mixed c43_ok q2_ok i169 h
/-! 106: lattice/ops.Arity -/
def d106 : List (Nat × List Nat) := [(0, [2, 3, 4, 5]), (0, []), (0, [0, 7, 8]), (0, []), (12, [6, 9, 10, 11, 12, 13, 14, 15, 16])]
noncomputable def n106 : FInfo := ⟨bodyOf Tryz.f106, [.tmp 2, .tmp 3, .tmp 4, .tmp 5], [3, 3, 3, 3]⟩
theorem i106 : finfo Tryz.prog 106 d106 = some n106 := finfo_at Tryz.func106 rfl (by kernel_rfl) (by kernel_rfl)
noncomputable def k106 : List AV → Option AV := fun xs => bodyP Tryz.prog inl c44 q2 100 d106 n106 xs
def a106_0 : List AV := [.v (.int .i64 73)]
def r106_0 : AV := .tuple [.v (.int .i64 2), .v (.int .i64 2), .v (.int .i64 1), .v (.int .i64 1)]
theorem p106_0 : k106 a106_0 = some r106_0 := by kernel_rfl
noncomputable def z106 : List AV → Option AV := fun xs => if sameL (sameA 8) xs a106_0 = true then some r106_0 else k106 xs
noncomputable def c45 : CallP := orC 106 z106 c44
theorem k106_ok (args : List AV) (r : AV) (h : k106 args = some r) : PureOK Tryz.prog 106 args r := by
  unfold k106 at h
  exact bodyP_ok mixed c44_ok q2_ok i106 h
theorem c45_ok : CpOK Tryz.prog c45 := orC_ok c44_ok fun args r h => by
  unfold z106 at h
  by_cases h0 : sameL (sameA 8) args a106_0 = true
  · rw [if_pos h0] at h; injection h with h; subst h; rw [sameL_eq (sameA_eq 8) h0]; exact k106_ok _ _ p106_0
  rw [if_neg h0] at h
  exact k106_ok _ _ h
/-! 123: (lattice/infer.ask).val -/
def d123 : List (Nat × List Nat) := [(0, [0]), (0, []), (0, [5, 6, 7, 8]), (0, []), (0, [10, 11, 12, 13, 14]), (0, []), (0, [1, 2, 15])]
noncomputable def n123 : FInfo := ⟨bodyOf Tryz.f123, [.cell 4 65], [65]⟩
theorem i123 : finfo Tryz.prog 123 d123 = some n123 := finfo_at Tryz.func123 rfl (by kernel_rfl) (by kernel_rfl)
noncomputable def c46 : CallP := orC 123 (fun xs => bodyP Tryz.prog inl c45 q2 100 d123 n123 xs) c45
theorem c46_ok : CpOK Tryz.prog c46 := orC_ok c45_ok fun args r h => bodyP_ok mixed c45_ok q2_ok i123 h
/-! 107: (lattice/infer.ask).has -/
def d107 : List (Nat × List Nat) := [(0, [0, 4]), (0, []), (0, [1, 2, 5, 6, 7, 8, 9])]
noncomputable def n107 : FInfo := ⟨bodyOf Tryz.f107, [.tmp 4], [4]⟩
theorem i107 : finfo Tryz.prog 107 d107 = some n107 := finfo_at Tryz.func107 rfl (by kernel_rfl) (by kernel_rfl)
noncomputable def c47 : CallP := orC 107 (fun xs => bodyP Tryz.prog inl c46 q2 100 d107 n107 xs) c46
theorem c47_ok : CpOK Tryz.prog c47 := orC_ok c46_ok fun args r h => bodyP_ok mixed c46_ok q2_ok i107 h
/-! 53: (lattice/infer.ask).complete -/
def d53 : List (Nat × List Nat) := [(0, [0, 2]), (0, [1, 49, 50]), (0, [8, 9, 10, 11, 12, 13, 14, 15]), (0, []), (0, [4, 5, 6, 16, 17, 18, 19, 20, 21, 22, 23, 24, 25, 26, 27, 28, 29, 30, 31, 32, 33, 34, 35, 36, 37, 38, 39, 40, 41, 42, 43, 44, 45, 46, 47]), (0, []), (0, []), (0, []), (0, [3]), (0, []), (0, []), (0, []), (0, [52]), (0, []), (0, [7, 53, 54, 55]), (0, []), (0, []), (0, []), (0, [57]), (0, []), (0, [])]
noncomputable def n53 : FInfo := ⟨bodyOf Tryz.f53, [.tmp 2], [4]⟩
theorem i53 : finfo Tryz.prog 53 d53 = some n53 := finfo_at Tryz.func53 rfl (by kernel_rfl) (by kernel_rfl)
noncomputable def c48 : CallP := orC 53 (fun xs => bodyP Tryz.prog inl c47 q2 100 d53 n53 xs) c47
theorem c48_ok : CpOK Tryz.prog c48 := orC_ok c47_ok fun args r h => bodyP_ok mixed c47_ok q2_ok i53 h
/-! 170: lattice/infer.sorts -/
def d170 : List (Nat × List Nat) := [(0, [2]), (0, [3, 4, 13, 18, 31, 36, 45, 55]), (0, [0]), (0, []), (0, [5]), (0, []), (0, [6]), (0, []), (0, [7]), (1, []), (0, [8]), (0, []), (0, [9]), (0, []), (0, [10]), (0, []), (0, [11]), (0, []), (0, [12]), (0, []), (0, []), (0, []), (0, [14]), (0, []), (0, [15]), (0, []), (0, [16]), (1, []), (0, [17]), (0, []), (0, []), (0, []), (0, [19]), (0, []), (0, [20]), (0, []), (0, [21]), (1, []), (0, [22]), (0, []), (0, [23]), (0, []), (0, [24]), (0, []), (0, [25]), (0, []), (0, [26]), (0, []), (0, [27]), (0, []), (0, [28]), (0, []), (0, [29]), (0, []), (0, [30]), (0, []), (0, []), (0, []), (0, [32]), (0, []), (0, [33]), (0, []), (0, []), (1, []), (0, [35]), (0, []), (0, []), (0, []), (0, [37]), (0, []), (0, [38]), (0, []), (0, [39]), (1, []), (0, [40]), (0, []), (0, [41]), (0, []), (0, [42]), (0, []), (0, [43]), (0, []), (0, [44]), (0, []), (0, []), (0, []), (0, [46]), (0, []), (0, [47]), (0, []), (0, [48]), (1, []), (0, [49]), (0, []), (0, [50]), (0, []), (0, [51]), (0, []), (0, [52]), (0, []), (0, [53]), (0, []), (0, [54]), (0, []), (0, []), (0, []), (0, [56]), (0, []), (0, [57]), (0, []), (0, []), (1, []), (0, [59]), (0, []), (0, []), (0, []), (0, [61]), (0, []), (0, []), (0, []), (0, [])]
noncomputable def n170 : FInfo := ⟨bodyOf Tryz.f170, [.tmp 2], [9]⟩
theorem i170 : finfo Tryz.prog 170 d170 = some n170 := finfo_at Tryz.func170 rfl (by kernel_rfl) (by kernel_rfl)
noncomputable def c49 : CallP := orC 170 (fun xs => bodyP Tryz.prog inl c48 q2 100 d170 n170 xs) c48
theorem c49_ok : CpOK Tryz.prog c49 := orC_ok c48_ok fun args r h => bodyP_ok mixed c48_ok q2_ok i170 h
/-! 171: (lattice/infer.ask).fits -/
def d171 : List (Nat × List Nat) := [(0, [0, 6]), (0, [1, 3, 12]), (0, [8, 9, 10, 11]), (0, []), (0, [2]), (0, []), (0, [14]), (0, []), (0, [15, 16, 17, 18, 19, 20]), (0, []), (0, [22]), (0, []), (0, [23, 24]), (0, []), (0, [26]), (0, []), (0, [27, 28]), (0, []), (0, [30]), (0, []), (0, [31, 32]), (0, []), (0, [34]), (0, []), (0, [35, 36, 37, 38, 39]), (0, []), (0, [41]), (0, []), (0, [42, 43, 44, 45, 46, 47, 48]), (0, []), (0, [7, 49, 50, 51])]
noncomputable def n171 : FInfo := ⟨bodyOf Tryz.f171, [.tmp 6], [4]⟩
theorem i171 : finfo Tryz.prog 171 d171 = some n171 := finfo_at Tryz.func171 rfl (by kernel_rfl) (by kernel_rfl)
noncomputable def c50 : CallP := orC 171 (fun xs => bodyP Tryz.prog inl c49 q2 100 d171 n171 xs) c49
theorem c50_ok : CpOK Tryz.prog c50 := orC_ok c49_ok fun args r h => bodyP_ok mixed c49_ok q2_ok i171 h
/-! 108: (lattice/infer.ask).typed -/
def d108 : List (Nat × List Nat) := [(0, [0, 2]), (0, [3, 10, 11]), (0, [5, 6, 7]), (0, []), (0, [8, 9]), (0, []), (0, []), (0, []), (0, [13]), (0, []), (24, [4, 14, 15, 16, 17, 18, 19, 20, 21, 22, 23, 24, 25, 26, 27, 28, 29, 30, 31, 32, 33, 34, 35, 36]), (0, []), (0, []), (0, []), (0, [38]), (0, []), (0, [1, 39, 40, 41, 42, 43, 44, 45, 46, 47, 48, 49, 50, 51, 52, 53])]
noncomputable def n108 : FInfo := ⟨bodyOf Tryz.f108, [.tmp 2], [4]⟩
theorem i108 : finfo Tryz.prog 108 d108 = some n108 := finfo_at Tryz.func108 rfl (by kernel_rfl) (by kernel_rfl)
noncomputable def c51 : CallP := orC 108 (fun xs => bodyP Tryz.prog inl c50 q2 100 d108 n108 xs) c50
theorem c51_ok : CpOK Tryz.prog c51 := orC_ok c50_ok fun args r h => bodyP_ok mixed c50_ok q2_ok i108 h
/-! 111: (lattice/infer.ask).dims -/
def d111 : List (Nat × List Nat) := [(0, [0, 4]), (0, []), (0, [1, 2, 5, 6, 7, 8])]
noncomputable def n111 : FInfo := ⟨bodyOf Tryz.f111, [.tmp 4], [35]⟩
theorem i111 : finfo Tryz.prog 111 d111 = some n111 := finfo_at Tryz.func111 rfl (by kernel_rfl) (by kernel_rfl)
noncomputable def c52 : CallP := orC 111 (fun xs => bodyP Tryz.prog inl c51 q2 100 d111 n111 xs) c51
theorem c52_ok : CpOK Tryz.prog c52 := orC_ok c51_ok fun args r h => bodyP_ok mixed c51_ok q2_ok i111 h
/-! 172: (lattice/infer.ask).rank -/
def d172 : List (Nat × List Nat) := [(0, [0, 2]), (0, []), (0, [1, 3, 4, 5])]
noncomputable def n172 : FInfo := ⟨bodyOf Tryz.f172, [.tmp 2], [3]⟩
theorem i172 : finfo Tryz.prog 172 d172 = some n172 := finfo_at Tryz.func172 rfl (by kernel_rfl) (by kernel_rfl)
noncomputable def c53 : CallP := orC 172 (fun xs => bodyP Tryz.prog inl c52 q2 100 d172 n172 xs) c52
theorem c53_ok : CpOK Tryz.prog c53 := orC_ok c52_ok fun args r h => bodyP_ok mixed c52_ok q2_ok i172 h
/-! 109: (lattice/infer.ask).attributes -/
def d109 : List (Nat × List Nat) := [(0, [0, 2]), (0, [1, 3, 4, 17, 58, 99, 131, 164]), (5, [12, 13, 14, 15]), (0, []), (0, [16]), (0, []), (0, [19]), (0, []), (0, [20, 21, 22, 23, 24, 25, 26, 27]), (0, []), (0, [29]), (0, []), (0, [30, 31, 32, 33]), (0, []), (0, [35]), (0, []), (0, [36, 37, 38, 39, 40, 41, 42, 43, 44, 45, 46, 47, 48, 49]), (0, []), (0, [5, 50, 51, 52, 53, 54, 55, 56, 57]), (0, []), (0, [59]), (0, []), (0, [60]), (0, []), (0, [61, 62, 63, 64, 65, 66, 67, 68]), (0, []), (0, [70]), (0, []), (0, [71, 72, 73, 74, 75, 76, 77]), (0, []), (0, [6, 7, 78, 79, 80, 81, 82, 83, 84, 85, 86, 87, 88, 89, 90, 91, 92, 93, 94, 95, 96, 97, 98]), (0, []), (0, [100]), (0, []), (0, [101]), (0, []), (0, [102]), (0, []), (0, [103]), (0, []), (0, [104]), (0, []), (0, [105]), (0, []), (0, [106]), (0, []), (0, [107]), (0, []), (0, [108]), (0, []), (0, [8, 109, 110, 111, 112, 113, 114, 115]), (0, []), (0, [9, 116, 117]), (0, []), (0, [119]), (0, []), (0, [120, 121, 122, 123, 124, 125, 126, 127, 128, 129, 130]), (0, []), (0, [132]), (0, []), (0, [133]), (0, []), (0, [134]), (0, []), (0, [135]), (0, []), (0, [10, 136, 137, 138, 139, 140, 141, 142]), (0, []), (0, [11, 143, 144]), (0, []), (0, [146]), (0, []), (0, [147, 148, 149, 150, 151, 152, 153, 154, 155, 156, 157, 158, 159, 160, 161, 162, 163]), (0, []), (0, [165]), (0, []), (0, [166]), (0, []), (0, [167, 168, 169, 170, 171, 172, 173, 174]), (0, []), (0, []), (0, []), (0, []), (0, []), (0, []), (0, []), (0, []), (0, []), (0, []), (0, []), (0, []), (0, []), (0, []), (0, []), (0, []), (0, []), (0, []), (0, []), (0, []), (0, []), (0, []), (0, []), (0, []), (0, []), (0, []), (0, []), (0, []), (0, []), (0, []), (0, []), (0, []), (0, []), (0, []), (0, []), (0, []), (0, []), (0, []), (1, []), (0, []), (0, []), (0, []), (0, []), (0, []), (0, []), (0, []), (0, []), (0, []), (0, []), (0, []), (0, []), (0, []), (0, []), (0, []), (0, []), (0, []), (0, []), (0, []), (0, []), (0, []), (0, []), (0, []), (0, []), (0, []), (0, []), (0, []), (0, []), (0, []), (0, []), (0, []), (0, []), (0, []), (0, []), (0, []), (0, []), (0, []), (0, []), (0, []), (0, []), (0, []), (0, []), (0, []), (0, []), (0, []), (0, []), (0, []), (0, []), (0, []), (0, []), (0, []), (0, []), (0, []), (0, []), (0, []), (0, []), (0, []), (0, []), (0, []), (0, []), (0, []), (0, []), (0, []), (0, []), (0, []), (0, []), (0, []), (0, []), (0, []), (0, []), (0, []), (0, []), (0, []), (0, []), (0, []), (0, []), (0, []), (0, []), (0, []), (0, []), (0, []), (1, []), (0, []), (0, []), (0, []), (0, []), (0, []), (0, []), (0, []), (0, []), (0, []), (0, []), (0, []), (0, []), (0, []), (0, []), (0, []), (0, []), (0, []), (0, []), (0, []), (0, []), (0, []), (0, []), (0, []), (0, []), (0, []), (0, []), (0, []), (0, []), (0, []), (0, []), (0, []), (0, []), (0, []), (0, []), (0, []), (0, []), (0, []), (0, []), (0, []), (0, []), (0, []), (0, []), (0, []), (0, []), (0, []), (0, []), (0, []), (0, []), (0, []), (0, []), (0, []), (0, []), (0, []), (0, []), (0, []), (0, []), (0, []), (0, []), (0, []), (0, []), (0, []), (0, []), (0, []), (1, []), (0, []), (0, []), (0, []), (0, []), (0, []), (0, []), (0, []), (0, []), (0, []), (0, []), (0, []), (0, []), (0, []), (0, []), (0, []), (0, []), (0, []), (0, []), (0, []), (0, []), (0, []), (0, []), (0, []), (0, []), (0, []), (0, []), (0, []), (0, []), (0, []), (0, []), (0, []), (0, []), (0, []), (0, []), (0, []), (0, []), (0, []), (0, []), (0, []), (0, []), (0, []), (0, []), (0, []), (0, []), (0, []), (0, []), (0, []), (0, []), (0, []), (0, []), (0, []), (0, []), (0, []), (0, []), (0, []), (0, []), (0, []), (0, []), (0, []), (0, []), (0, []), (0, []), (0, []), (0, []), (0, []), (1, [])]
noncomputable def n109 : FInfo := ⟨bodyOf Tryz.f109, [.tmp 2], [4]⟩
theorem i109 : finfo Tryz.prog 109 d109 = some n109 := finfo_at Tryz.func109 rfl (by kernel_rfl) (by kernel_rfl)
noncomputable def c54 : CallP := orC 109 (fun xs => bodyP Tryz.prog inl c53 q2 100 d109 n109 xs) c53
theorem c54_ok : CpOK Tryz.prog c54 := orC_ok c53_ok fun args r h => bodyP_ok mixed c53_ok q2_ok i109 h
/-! 126: slices.Equal[[]int,int] -/
def d126 : List (Nat × List Nat) := [(0, [4]), (0, [0, 1, 12, 13]), (0, [6, 7, 8, 9]), (0, []), (0, []), (0, []), (0, [11]), (0, []), (0, []), (0, []), (0, [15]), (0, []), (9, [5, 16, 17, 18, 19, 20, 21, 22, 23]), (0, []), (0, []), (0, []), (0, [25]), (0, []), (0, [])]
noncomputable def n126 : FInfo := ⟨bodyOf Tryz.f126, [.tmp 4], [4]⟩
theorem i126 : finfo Tryz.prog 126 d126 = some n126 := finfo_at Tryz.func126 rfl (by kernel_rfl) (by kernel_rfl)
noncomputable def c55 : CallP := orC 126 (fun xs => bodyP Tryz.prog inl c54 q2 100 d126 n126 xs) c54
theorem c55_ok : CpOK Tryz.prog c55 := orC_ok c54_ok fun args r h => bodyP_ok mixed c54_ok q2_ok i126 h
/-! 177: (lattice/infer.ask).lists -/
def d177 : List (Nat × List Nat) := [(0, [0, 2]), (0, [8, 13]), (0, []), (0, [1, 4, 6]), (0, [7]), (0, []), (0, []), (0, []), (0, [10]), (0, []), (0, []), (0, []), (0, [12]), (0, []), (0, []), (0, []), (0, [14]), (0, []), (0, [15]), (0, []), (0, [16]), (0, []), (0, [17]), (0, []), (0, [18]), (0, []), (0, [19]), (1, []), (0, [20]), (0, []), (0, [21]), (0, []), (0, [8000005]), (0, []), (0, [3, 22]), (0, []), (0, [23, 24]), (0, []), (0, [26, 27]), (0, []), (0, [28, 29]), (0, []), (0, [31, 32, 33, 34, 35, 36]), (0, []), (0, [5, 37])]
noncomputable def n177 : FInfo := ⟨bodyOf Tryz.f177, [.tmp 2], [60]⟩
theorem i177 : finfo Tryz.prog 177 d177 = some n177 := finfo_at Tryz.func177 rfl (by kernel_rfl) (by kernel_rfl)
noncomputable def c56 : CallP := orC 177 (fun xs => bodyP Tryz.prog inl c55 q2 100 d177 n177 xs) c55
theorem c56_ok : CpOK Tryz.prog c56 := orC_ok c55_ok fun args r h => bodyP_ok mixed c55_ok q2_ok i177 h
/-! 212: slices.IndexFunc[[]lattice/api.Val,lattice/api.Val] -/
def d212 : List (Nat × List Nat) := [(0, [4]), (0, [0, 1, 7, 8]), (0, [6]), (0, [5]), (0, []), (0, []), (0, [10]), (0, []), (0, [11, 12, 13, 14, 15]), (0, []), (0, [17]), (0, []), (0, [18]), (0, []), (0, [])]
noncomputable def n212 : FInfo := ⟨bodyOf Tryz.f212, [.tmp 4], [3]⟩
theorem i212 : finfo Tryz.prog 212 d212 = some n212 := finfo_at Tryz.func212 rfl (by kernel_rfl) (by kernel_rfl)
noncomputable def c57 : CallP := orC 212 (fun xs => bodyP Tryz.prog inl c56 q2 100 d212 n212 xs) c56
theorem c57_ok : CpOK Tryz.prog c57 := orC_ok c56_ok fun args r h => bodyP_ok mixed c56_ok q2_ok i212 h
/-! 178: slices.ContainsFunc[[]lattice/api.Val,lattice/api.Val] -/
def d178 : List (Nat × List Nat) := [(0, [4]), (0, []), (0, [0, 1, 5, 6, 7, 8])]
noncomputable def n178 : FInfo := ⟨bodyOf Tryz.f178, [.tmp 4], [4]⟩
theorem i178 : finfo Tryz.prog 178 d178 = some n178 := finfo_at Tryz.func178 rfl (by kernel_rfl) (by kernel_rfl)
noncomputable def c58 : CallP := orC 178 (fun xs => bodyP Tryz.prog inl c57 q2 100 d178 n178 xs) c57
theorem c58_ok : CpOK Tryz.prog c58 := orC_ok c57_ok fun args r h => bodyP_ok mixed c57_ok q2_ok i178 h
/-! 110: (lattice/infer.ask).told -/
def d110 : List (Nat × List Nat) := [(0, [0, 2]), (0, [1, 3]), (0, [4, 5]), (0, []), (0, [7, 8]), (0, []), (0, []), (0, []), (0, [10, 11]), (0, []), (0, []), (0, []), (0, [13, 14, 15, 16, 17, 18, 19]), (0, []), (0, []), (0, []), (0, [])]
noncomputable def n110 : FInfo := ⟨bodyOf Tryz.f110, [.tmp 2], [40]⟩
theorem i110 : finfo Tryz.prog 110 d110 = some n110 := finfo_at Tryz.func110 rfl (by kernel_rfl) (by kernel_rfl)
noncomputable def c59 : CallP := orC 110 (fun xs => bodyP Tryz.prog inl c58 q2 100 d110 n110 xs) c58
theorem c59_ok : CpOK Tryz.prog c59 := orC_ok c58_ok fun args r h => bodyP_ok mixed c58_ok q2_ok i110 h
/-! 54: (lattice/infer.ask).wrong -/
def d54 : List (Nat × List Nat) := [(0, [0, 2]), (0, [8, 9, 10]), (0, [7]), (0, []), (0, []), (0, []), (0, [12, 13, 14]), (0, []), (0, [4, 5, 15, 16, 17, 18, 19, 20]), (0, []), (0, [3, 6, 21, 22, 23, 24, 25, 26]), (0, []), (0, []), (0, []), (0, [28]), (0, []), (0, [30, 31, 32]), (0, []), (0, []), (0, []), (0, [34, 35, 36]), (0, []), (0, []), (0, []), (0, [1, 37, 38])]
noncomputable def n54 : FInfo := ⟨bodyOf Tryz.f54, [.tmp 2], [40]⟩
theorem i54 : finfo Tryz.prog 54 d54 = some n54 := finfo_at Tryz.func54 rfl (by kernel_rfl) (by kernel_rfl)
noncomputable def c60 : CallP := orC 54 (fun xs => bodyP Tryz.prog inl c59 q2 100 d54 n54 xs) c59
theorem c60_ok : CpOK Tryz.prog c60 := orC_ok c59_ok fun args r h => bodyP_ok mixed c59_ok q2_ok i54 h
/-! 57: slices.Clone[[]int,int] -/
def d57 : List (Nat × List Nat) := [(0, [2]), (0, []), (0, [3]), (0, []), (0, []), (0, []), (0, [0, 5, 6, 7])]
noncomputable def n57 : FInfo := ⟨bodyOf Tryz.f57, [.tmp 2], [35]⟩
theorem i57 : finfo Tryz.prog 57 d57 = some n57 := finfo_at Tryz.func57 rfl (by kernel_rfl) (by kernel_rfl)
def z57 (k : List AV → Option AV) : List AV → Option AV
  | [.arr 0 []] => some (.fresh 1 0 [])
  | xs => k xs
noncomputable def c61 : CallP := orC 57 (z57 fun xs => bodyP Tryz.prog inl c60 q2 100 d57 n57 xs) c60
theorem y57 (a : Option Addr) (c : Nat) : bodyP Tryz.prog inl c60 q2 100 d57 n57 [.v (.slice a 0 c)] = some (.fresh 1 0 []) := by cases a <;> kernel_rfl
theorem c61_ok : CpOK Tryz.prog c61 := orC_ok c60_ok fun args r h => by
  unfold z57 at h
  split at h
  · injection h with h; subst h
    exact PureOK.arr0 fun a c => bodyP_ok mixed c60_ok q2_ok i57 (y57 a c)
  · exact bodyP_ok mixed c60_ok q2_ok i57 h
/-! 62: lattice/shape.Broadcast -/
def d62 : List (Nat × List Nat) := [(0, [4, 5]), (0, [19, 20, 21]), (0, [17, 18]), (0, [9]), (0, []), (0, [11, 48, 49, 50]), (0, [23, 24]), (0, []), (0, [7, 8, 25, 26, 27, 28, 29]), (0, [12, 13, 14]), (0, [30]), (0, []), (0, [32]), (0, []), (0, [33]), (0, []), (0, [34, 35, 36, 37]), (0, []), (0, [39, 40]), (0, []), (0, [41, 42]), (0, []), (0, [0, 43, 44, 45, 46, 47]), (0, []), (0, [1]), (0, []), (0, []), (0, []), (0, [52, 53, 54]), (0, []), (0, [55, 56, 57, 58, 59, 60]), (0, []), (0, [62, 63]), (0, []), (0, [64, 65, 66, 67, 68, 69]), (0, []), (0, [71, 72, 73, 74, 75, 76, 77]), (0, []), (0, []), (0, []), (0, [78]), (0, []), (0, [15, 79, 80, 81, 82, 83]), (0, []), (0, [84]), (0, []), (0, [86]), (0, []), (0, [10, 16, 87])]
noncomputable def n62 : FInfo := ⟨bodyOf Tryz.f62, [.tmp 4, .tmp 5], [35, 40]⟩
theorem i62 : finfo Tryz.prog 62 d62 = some n62 := finfo_at Tryz.func62 rfl (by kernel_rfl) (by kernel_rfl)
noncomputable def c62 : CallP := orC 62 (fun xs => bodyP Tryz.prog inl c61 q2 100 d62 n62 xs) c61
theorem c62_ok : CpOK Tryz.prog c62 := orC_ok c61_ok fun args r h => bodyP_ok mixed c61_ok q2_ok i62 h
/-! 122: lattice/infer.one -/
def d122 : List (Nat × List Nat) := [(0, [2, 3]), (0, []), (0, [0, 4, 5])]
noncomputable def n122 : FInfo := ⟨bodyOf Tryz.f122, [.tmp 2, .tmp 3], [81, 40]⟩
theorem i122 : finfo Tryz.prog 122 d122 = some n122 := finfo_at Tryz.func122 rfl (by kernel_rfl) (by kernel_rfl)
noncomputable def c63 : CallP := orC 122 (fun xs => bodyP Tryz.prog inl c62 q2 100 d122 n122 xs) c62
theorem c63_ok : CpOK Tryz.prog c63 := orC_ok c62_ok fun args r h => bodyP_ok mixed c62_ok q2_ok i122 h
/-! 117: (lattice/infer.ask).product -/
def d117 : List (Nat × List Nat) := [(0, [0, 2, 3]), (0, []), (6, [1, 12, 13, 14, 15]), (0, []), (0, [16, 17, 18, 19, 20, 21, 22]), (0, []), (0, [24, 25, 26]), (0, []), (0, [27, 28, 29, 30, 31, 32]), (0, []), (0, []), (0, []), (0, [34, 35, 36, 37, 1000000004]), (0, []), (0, []), (0, []), (0, [39, 40, 41, 42, 1000000005]), (0, []), (0, [43, 44, 45, 46, 47, 48]), (0, []), (10, [49, 50, 51, 52, 53, 54, 55, 56, 57]), (0, []), (0, [59, 60, 61]), (0, []), (12, [62, 63, 64, 65, 66, 67, 68, 69, 70, 71]), (0, []), (0, [72]), (0, []), (0, [74]), (0, []), (0, [6, 11, 75]), (0, []), (0, [77, 78, 79, 80, 81, 82, 83]), (0, []), (0, [4, 7, 8, 84]), (0, []), (0, [86, 87, 88, 89, 90, 91, 92, 93]), (0, []), (0, [5, 9, 10, 94, 95, 96, 97])]
noncomputable def n117 : FInfo := ⟨bodyOf Tryz.f117, [.tmp 2, .tmp 3], [81, 40]⟩
theorem i117 : finfo Tryz.prog 117 d117 = some n117 := finfo_at Tryz.func117 rfl (by kernel_rfl) (by kernel_rfl)
noncomputable def c64 : CallP := orC 117 (fun xs => bodyP Tryz.prog inl c63 q2 100 d117 n117 xs) c63
theorem c64_ok : CpOK Tryz.prog c64 := orC_ok c63_ok fun args r h => bodyP_ok mixed c63_ok q2_ok i117 h
/-! 55: (lattice/infer.ask).shapes -/
def d55 : List (Nat × List Nat) := [(0, [0, 2, 3]), (0, [1, 5, 9, 10, 54, 78, 108, 115]), (0, [6, 7]), (0, []), (0, [8]), (0, []), (0, [11]), (0, []), (0, [12]), (0, []), (0, [13]), (0, []), (0, [14]), (0, []), (0, [15]), (0, []), (0, [16]), (0, []), (0, [17]), (0, []), (0, [18]), (1, []), (0, [19]), (0, []), (0, [20]), (0, []), (0, [21]), (0, []), (0, [22]), (0, []), (0, [23]), (0, []), (0, [24]), (0, []), (0, [25]), (0, []), (0, [26]), (0, []), (0, [27]), (0, []), (0, [28, 29, 30, 31]), (0, []), (0, [33]), (0, []), (0, [34, 35, 36, 37]), (0, []), (0, [38]), (0, []), (0, [40]), (0, []), (0, [42]), (0, []), (8, [43, 44, 45, 46, 47, 48, 49]), (0, []), (0, [51, 52, 53]), (0, []), (0, [55]), (0, []), (0, [56]), (0, []), (0, [57]), (0, []), (0, [58]), (0, []), (0, [59]), (0, []), (0, [60]), (0, []), (0, [61]), (0, []), (0, [62]), (0, []), (0, [63]), (0, []), (0, [64]), (0, []), (0, [65]), (0, []), (0, [66]), (0, []), (0, [67]), (0, []), (0, [68]), (0, []), (0, [69]), (0, []), (0, [70]), (0, []), (0, [71]), (0, []), (0, [72]), (0, []), (0, [73]), (0, []), (0, [74, 75, 76, 77]), (0, []), (0, [79]), (0, []), (0, [80]), (0, []), (0, [81]), (0, []), (0, [82]), (0, []), (0, [83]), (0, []), (0, [84]), (0, []), (0, [85]), (1, []), (0, [86, 87, 88, 89]), (0, []), (0, [91]), (0, []), (0, [92, 93, 94, 95]), (0, []), (0, [97]), (0, []), (0, [98, 99, 100, 101]), (0, []), (0, [103]), (0, []), (0, [104, 105, 106, 107]), (0, []), (0, [109]), (0, []), (0, [110]), (0, []), (0, [111, 112, 113, 114]), (0, []), (0, [116]), (0, []), (0, [117]), (0, []), (0, [118]), (0, []), (0, [119, 120, 121, 122]), (0, []), (0, [4, 123, 124, 125, 126]), (0, []), (0, []), (0, []), (0, []), (0, []), (0, []), (0, []), (0, []), (0, []), (0, []), (0, []), (0, []), (0, []), (0, []), (0, []), (0, []), (0, []), (0, []), (1, []), (0, []), (0, []), (0, []), (0, []), (0, []), (0, []), (0, []), (0, []), (0, []), (0, []), (0, []), (0, []), (0, []), (0, []), (0, []), (0, []), (0, []), (0, []), (0, []), (0, []), (0, []), (0, []), (0, []), (0, []), (0, []), (0, []), (0, []), (0, []), (0, []), (0, []), (0, []), (0, []), (0, []), (0, []), (0, []), (0, []), (0, []), (0, []), (0, []), (0, []), (0, []), (0, []), (0, []), (0, []), (0, []), (0, []), (0, []), (0, []), (0, []), (0, []), (0, []), (0, []), (0, []), (0, []), (0, []), (0, []), (0, []), (0, []), (0, []), (1, []), (0, []), (0, []), (0, []), (0, []), (0, []), (0, []), (0, []), (0, []), (0, []), (0, []), (0, []), (0, []), (0, []), (1, [])]
noncomputable def n55 : FInfo := ⟨bodyOf Tryz.f55, [.tmp 2, .tmp 3], [81, 40]⟩
theorem i55 : finfo Tryz.prog 55 d55 = some n55 := finfo_at Tryz.func55 rfl (by kernel_rfl) (by kernel_rfl)
noncomputable def c65 : CallP := orC 55 (fun xs => bodyP Tryz.prog inl c64 q2 100 d55 n55 xs) c64
theorem c65_ok : CpOK Tryz.prog c65 := orC_ok c64_ok fun args r h => bodyP_ok mixed c64_ok q2_ok i55 h
/-! 56: (lattice/infer.ask).out -/
def d56 : List (Nat × List Nat) := [(0, [0, 2]), (0, [4, 5, 17]), (0, [3]), (0, []), (0, [6]), (0, []), (0, [7]), (0, []), (0, [8]), (0, []), (0, [9]), (1, []), (0, [10]), (0, []), (0, [11]), (0, []), (0, [12]), (0, []), (0, [13]), (0, []), (0, [14]), (0, []), (0, [15]), (0, []), (0, [16]), (0, []), (0, []), (0, []), (0, [18]), (0, []), (0, [19]), (0, []), (0, [20]), (0, []), (0, [21]), (1, []), (0, []), (0, []), (0, [23]), (0, []), (0, [24, 25, 26]), (0, []), (0, [28]), (0, []), (0, [29, 30, 31, 32]), (0, []), (0, [34]), (0, []), (0, [35, 36, 37]), (0, []), (0, [1, 38, 39, 40])]
noncomputable def n56 : FInfo := ⟨bodyOf Tryz.f56, [.tmp 2], [3]⟩
theorem i56 : finfo Tryz.prog 56 d56 = some n56 := finfo_at Tryz.func56 rfl (by kernel_rfl) (by kernel_rfl)
noncomputable def c66 : CallP := orC 56 (fun xs => bodyP Tryz.prog inl c65 q2 100 d56 n56 xs) c65
theorem c66_ok : CpOK Tryz.prog c66 := orC_ok c65_ok fun args r h => bodyP_ok mixed c65_ok q2_ok i56 h
/-! 31: lattice/infer.Node -/
def d31 : List (Nat × List Nat) := [(0, [1, 8, 9]), (0, [10, 40, 41, 42]), (0, [0, 2, 3, 5, 19, 20, 21, 22, 23]), (0, []), (0, [24, 25]), (0, []), (0, []), (0, []), (0, [27, 28]), (0, []), (0, [29]), (0, []), (0, [31]), (0, []), (0, [11, 32, 33, 34, 35, 36]), (0, []), (0, [37]), (0, []), (0, [39]), (0, []), (0, [13, 8000014]), (0, []), (0, [12]), (0, []), (0, []), (0, []), (0, [44, 45]), (0, []), (0, [17, 46, 47, 48, 49, 50]), (0, []), (0, [18, 51]), (0, []), (0, []), (0, []), (0, [16, 53, 54, 55, 56, 57, 58, 59, 60]), (0, []), (0, [61]), (0, []), (0, [14, 62])]
noncomputable def n31 : FInfo := ⟨bodyOf Tryz.f31, [.tmp 8, .tmp 9], [60, 40]⟩
theorem i31 : finfo Tryz.prog 31 d31 = some n31 := finfo_at Tryz.func31 rfl (by kernel_rfl) (by kernel_rfl)
noncomputable def c67 : CallP := orC 31 (fun xs => bodyP Tryz.prog inl c66 q2 100 d31 n31 xs) c66
theorem c67_ok : CpOK Tryz.prog c67 := orC_ok c66_ok fun args r h => bodyP_ok mixed c66_ok q2_ok i31 h
/-! 32: lattice/ewise.Vals -/
def d32 : List (Nat × List Nat) := [(0, [2]), (0, [7, 8, 9]), (0, [8000003]), (0, []), (0, [0]), (0, []), (0, []), (0, []), (0, [11, 12]), (0, []), (0, [13]), (0, []), (0, [14, 15]), (0, []), (8, [17, 18, 19, 20, 21, 22, 23, 24]), (0, []), (0, [5, 6, 25, 26, 27, 28]), (0, []), (0, [29]), (0, []), (0, [3, 30])]
noncomputable def n32 : FInfo := ⟨bodyOf Tryz.f32, [.tmp 2], [60]⟩
theorem i32 : finfo Tryz.prog 32 d32 = some n32 := finfo_at Tryz.func32 rfl (by kernel_rfl) (by kernel_rfl)
noncomputable def c68 : CallP := orC 32 (fun xs => (bodyP Tryz.prog inl c67 q2 100 d32 n32 xs).bind (sealR 4)) c67
theorem c68_ok : CpOK Tryz.prog c68 := orC_ok c67_ok fun args r h => by
  obtain ⟨r0, h0, h1⟩ := Option.bind_eq_some_iff.1 h
  exact (bodyP_ok mixed c67_ok q2_ok i32 h0).sealed h1
/-! 127: lattice/shape.strides -/
def d127 : List (Nat × List Nat) := [(0, [2]), (0, [0, 4, 5]), (0, [6, 7, 8]), (0, []), (0, []), (0, []), (0, [9, 10, 11]), (0, []), (0, [12]), (0, []), (0, [14, 15]), (0, []), (0, [16, 17, 18, 19]), (0, []), (0, [20, 21, 22, 23, 24, 25]), (0, []), (0, [3, 26])]
noncomputable def n127 : FInfo := ⟨bodyOf Tryz.f127, [.tmp 2], [35]⟩
theorem i127 : finfo Tryz.prog 127 d127 = some n127 := finfo_at Tryz.func127 rfl (by kernel_rfl) (by kernel_rfl)
noncomputable def c69 : CallP := orC 127 (fun xs => bodyP Tryz.prog inl c68 q2 100 d127 n127 xs) c68
theorem c69_ok : CpOK Tryz.prog c69 := orC_ok c68_ok fun args r h => bodyP_ok mixed c68_ok q2_ok i127 h
/-! 80: lattice/shape.Index -/
def d80 : List (Nat × List Nat) := [(0, [4, 5]), (0, [1, 30, 31, 32]), (0, [11, 12, 13, 14, 15]), (0, []), (0, [16]), (0, []), (0, [18]), (0, []), (0, [6, 7, 19, 20, 21, 22, 23, 24]), (0, []), (0, []), (0, []), (0, [26, 27, 28]), (0, []), (0, [0, 29]), (0, []), (0, []), (0, []), (0, [34, 35, 36]), (0, []), (0, [9, 37, 38, 39, 40, 41, 42]), (0, []), (0, [10, 43, 44, 45]), (0, []), (0, [46]), (0, []), (0, [8, 47])]
noncomputable def n80 : FInfo := ⟨bodyOf Tryz.f80, [.tmp 4, .tmp 5], [35, 40]⟩
theorem i80 : finfo Tryz.prog 80 d80 = some n80 := finfo_at Tryz.func80 rfl (by kernel_rfl) (by kernel_rfl)
noncomputable def c70 : CallP := orC 80 (fun xs => bodyP Tryz.prog inl c69 q2 100 d80 n80 xs) c69
theorem c70_ok : CpOK Tryz.prog c70 := orC_ok c69_ok fun args r h => bodyP_ok mixed c69_ok q2_ok i80 h
/-! 63: lattice/shape.From -/
def d63 : List (Nat × List Nat) := [(0, [6, 7]), (0, [0, 14, 65, 66, 67]), (0, [8, 18, 19, 20, 21, 22]), (0, [16, 17]), (0, [23]), (0, []), (0, [25]), (0, []), (0, [9, 10, 26, 27, 28, 29, 30]), (0, []), (0, [31]), (0, []), (0, [33]), (0, []), (0, [11, 34, 35, 36, 37, 38, 39]), (0, []), (0, [12, 13, 40, 41, 42, 43, 44, 45, 46]), (0, []), (0, []), (0, []), (0, [2, 48, 49, 50, 51, 52, 53, 1000000014]), (0, []), (0, [54]), (0, []), (0, [56]), (0, []), (0, [1, 13, 57, 58, 59, 60, 61, 62, 63]), (0, []), (0, []), (0, []), (0, [64]), (0, []), (0, []), (0, []), (0, [69, 70, 71]), (0, []), (0, [72, 73, 74, 75]), (0, []), (0, [77, 78, 79, 80, 81, 82, 83, 84]), (0, []), (0, [85]), (0, []), (0, [15, 86])]
noncomputable def n63 : FInfo := ⟨bodyOf Tryz.f63, [.tmp 6, .tmp 7], [3, 40]⟩
theorem i63 : finfo Tryz.prog 63 d63 = some n63 := finfo_at Tryz.func63 rfl (by kernel_rfl) (by kernel_rfl)
noncomputable def c71 : CallP := orC 63 (fun xs => bodyP Tryz.prog inl c70 q2 100 d63 n63 xs) c70
theorem c71_ok : CpOK Tryz.prog c71 := orC_ok c70_ok fun args r h => bodyP_ok mixed c70_ok q2_ok i63 h
/-! 200: (lattice/mat.line[uint32]).list -/
def d200 : List (Nat × List Nat) := [(0, [0, 2]), (0, [1, 6, 7]), (0, [1000003]), (0, []), (0, [5]), (0, []), (0, []), (0, []), (0, [9]), (0, []), (0, [4, 10, 11, 12, 13, 14, 15, 16, 17, 18, 19, 20, 21, 22, 23]), (0, []), (0, [24]), (0, []), (0, [3, 25])]
noncomputable def n200 : FInfo := ⟨bodyOf Tryz.f200, [.tmp 2], [22]⟩
theorem i200 : finfo Tryz.prog 200 d200 = some n200 := finfo_at Tryz.func200 rfl (by kernel_rfl) (by kernel_rfl)
noncomputable def c72 : CallP := orC 200 (fun xs => bodyP Tryz.prog inl c71 q2 100 d200 n200 xs) c71
theorem c72_ok : CpOK Tryz.prog c72 := orC_ok c71_ok fun args r h => bodyP_ok mixed c71_ok q2_ok i200 h
/-! 128: (lattice/mat.grid).down -/
def d128 : List (Nat × List Nat) := [(0, [0, 4]), (0, []), (0, [1, 2, 5, 6, 7, 8, 9, 10, 11, 12, 13, 14, 15, 16, 17, 18, 19])]
noncomputable def n128 : FInfo := ⟨bodyOf Tryz.f128, [.tmp 4], [22]⟩
theorem i128 : finfo Tryz.prog 128 d128 = some n128 := finfo_at Tryz.func128 rfl (by kernel_rfl) (by kernel_rfl)
noncomputable def c73 : CallP := orC 128 (fun xs => bodyP Tryz.prog inl c72 q2 100 d128 n128 xs) c72
theorem c73_ok : CpOK Tryz.prog c73 := orC_ok c72_ok fun args r h => bodyP_ok mixed c72_ok q2_ok i128 h
/-! 129: (lattice/mat.grid).across -/
def d129 : List (Nat × List Nat) := [(0, [0, 4]), (0, []), (0, [1, 2, 5, 6, 7, 8, 9, 10, 11, 12, 13, 14, 15, 16, 17, 18, 19])]
noncomputable def n129 : FInfo := ⟨bodyOf Tryz.f129, [.tmp 4], [22]⟩
theorem i129 : finfo Tryz.prog 129 d129 = some n129 := finfo_at Tryz.func129 rfl (by kernel_rfl) (by kernel_rfl)
noncomputable def c74 : CallP := orC 129 (fun xs => bodyP Tryz.prog inl c73 q2 100 d129 n129 xs) c73
theorem c74_ok : CpOK Tryz.prog c74 := orC_ok c73_ok fun args r h => bodyP_ok mixed c73_ok q2_ok i129 h
/-! 130: lattice/mat.Dot -/
def d130 : List (Nat × List Nat) := [(0, [4]), (0, [0, 1, 11, 12]), (0, []), (0, []), (0, [7, 8, 9, 10]), (0, []), (0, []), (0, []), (0, [14]), (0, []), (12, [6, 15, 16, 17, 18, 19, 20, 21, 22, 23, 24, 25]), (0, []), (0, [26]), (0, []), (0, [5, 27])]
noncomputable def n130 : FInfo := ⟨bodyOf Tryz.f130, [.tmp 4], [24]⟩
theorem i130 : finfo Tryz.prog 130 d130 = some n130 := finfo_at Tryz.func130 rfl (by kernel_rfl) (by kernel_rfl)
noncomputable def c75 : CallP := orC 130 (fun xs => bodyP Tryz.prog inl c74 q2 100 d130 n130 xs) c74
theorem c75_ok : CpOK Tryz.prog c75 := orC_ok c74_ok fun args r h => bodyP_ok mixed c74_ok q2_ok i130 h
/-! 64: lattice/mat.times -/
def d64 : List (Nat × List Nat) := [(0, [0, 1]), (0, [4, 13, 14]), (0, [1000006]), (0, []), (0, [12]), (0, [2, 3, 6, 25, 26]), (0, []), (0, []), (0, [16]), (0, [9, 32, 33, 34]), (0, [7, 17, 18, 19, 20, 21, 22]), (0, []), (0, [23]), (0, []), (0, [24]), (0, []), (0, []), (0, []), (0, [28]), (0, []), (0, [8, 29, 30, 31]), (0, []), (0, []), (0, []), (0, []), (0, []), (0, [36, 37]), (0, []), (0, [11, 38, 39, 40, 41, 42]), (0, []), (0, [43]), (0, []), (0, [44])]
noncomputable def n64 : FInfo := ⟨bodyOf Tryz.f64, [], []⟩
theorem i64 : finfo Tryz.prog 64 d64 = some n64 := finfo_at Tryz.func64 rfl (by kernel_rfl) (by kernel_rfl)
noncomputable def q3 : CallI := ciE Tryz.prog inl c75 q2 100 64 d64 n64 q2
theorem q3_ok : CiOK Tryz.prog q3 := ciE_ok mixed c75_ok q2_ok i64 q2_ok
/-! 34: lattice/mat.product -/
def d34 : List (Nat × List Nat) := [(0, [0, 1, 4]), (0, [5, 6, 7, 8, 9, 10, 11, 94, 95]), (6, [21, 22, 23, 24]), (0, []), (0, [25, 26]), (0, []), (0, [28, 29, 30, 31, 1000000005]), (0, []), (0, [32, 33]), (0, []), (0, [35, 36, 37, 38, 1000000006]), (0, []), (0, [39, 40, 41, 42, 43, 44]), (0, []), (18, [2, 45, 46, 47, 48, 49, 50, 51, 52, 53, 54, 55, 56, 57, 58, 59, 60, 61]), (0, []), (18, [3, 62, 63, 64, 65, 66, 67, 68, 69, 70, 71, 72, 73, 74, 75, 76, 77, 78]), (0, []), (12, [12, 79, 80, 81, 82, 83, 84, 85, 86, 87, 88]), (0, []), (0, [14, 89, 90, 91, 92, 93]), (0, []), (0, [4001000015]), (0, []), (0, [13]), (0, []), (0, []), (0, []), (0, [97]), (0, []), (0, [18, 98, 99, 100, 101, 102, 103, 104, 105, 106]), (0, []), (0, [16, 20, 107, 108, 109, 110, 111, 112, 113, 114, 115]), (0, []), (2026025, [17, 19, 116, 117, 118, 119, 120, 121, 122, 123, 124, 125, 126, 127, 128, 129, 130, 131, 132, 133, 134, 135, 136, 137, 138, 139, 140, 141]), (0, []), (0, [142, 143, 144, 145]), (0, []), (0, [146]), (0, []), (0, [15, 147])]
noncomputable def n34 : FInfo := ⟨bodyOf Tryz.f34, [.tmp 4], [22]⟩
theorem i34 : finfo Tryz.prog 34 d34 = some n34 := finfo_at Tryz.func34 rfl (by kernel_rfl) (by kernel_rfl)
noncomputable def c76 : CallP := orC 34 (fun xs => bodyP Tryz.prog inl c75 q3 100 d34 n34 xs) c75
theorem c76_ok : CpOK Tryz.prog c76 := orC_ok c75_ok fun args r h => bodyP_ok mixed c75_ok q3_ok i34 h
/-! 15: lattice/mat.Do -/
def d15 : List (Nat × List Nat) := [(0, [1, 7]), (0, [21, 22, 23]), (0, [17, 18]), (0, []), (0, [20]), (0, []), (0, [5000008]), (0, []), (0, []), (0, []), (0, []), (0, []), (0, [25, 26]), (0, []), (0, [27, 28]), (0, []), (0, [30, 31]), (0, []), (0, [32]), (0, []), (0, [34, 35]), (0, []), (0, [10, 11, 36, 37, 38, 39, 40]), (0, []), (0, [41]), (0, []), (10, [2, 42, 43, 44, 45, 46, 47, 48, 49]), (0, []), (0, [50]), (0, []), (0, [52, 53]), (0, []), (0, [12, 13, 54, 55, 56, 57, 58]), (0, []), (0, [16, 59, 60, 61, 62, 63, 64]), (0, []), (0, [15, 65]), (0, []), (0, [67]), (0, []), (0, [0, 68]), (0, []), (8, [70, 71, 72, 73, 74, 75, 76, 77]), (0, []), (0, [78, 79, 80, 81, 82, 83]), (0, []), (0, [4, 8, 14, 84])]
noncomputable def n15 : FInfo := ⟨bodyOf Tryz.f15, [.cell 6 39, .tmp 7], [39, 40]⟩
theorem i15 : finfo Tryz.prog 15 d15 = some n15 := finfo_at Tryz.func15 rfl (by kernel_rfl) (by kernel_rfl)
noncomputable def k15 : List AV → Option AV := fun xs => bodyP Tryz.prog inl c76 q3 100 d15 n15 xs
def a15_0 : List AV := [.v (.int .i64 73), .agg [.v (.int .i64 0), .arr 0 [], .v (.bool false), .v (.bool false), .v (.bool false), .v (.bool false), .v (.bool false), .arr 0 [], .v (.bool false), .v (.int .u32 0), .v (.int .u32 0), .v (.int .u32 0), .v (.bool false), .v (.bool false), .v (.bool false), .v (.int .i64 0), .v (.int .i64 0), .v (.bool false), .v (.bool false), .v (.int .i64 0), .arr 0 [], .arr 0 [], .arr 0 [], .arr 0 [], .v (.int .i64 0), .v (.bool false), .v (.bool false), .v (.int .i64 0), .v (.int .i64 0), .v (.int .i64 0), .v (.bool false), .v (.int .i64 0), .arr 0 [], .arr 0 [], .arr 0 [], .arr 0 []], .arr 2 [.v (.int .i64 1), .arr 1 [.v (.int .i64 1)], .arr 1 [.v (.int .u32 0)], .arr 0 [], .arr 0 [], .v (.int .i64 1), .arr 1 [.v (.int .i64 1)], .arr 1 [.v (.int .u32 1048576000)], .arr 0 [], .arr 0 []]]
def r15_0 : AV := .tuple [.agg [.v (.int .i64 1), .arr 0 [], .fresh 1 1 [.v (.int .u32 0)], .fresh 1 0 [], .fresh 1 0 []], .v (.int .i64 0)]
theorem p15_0 : k15 a15_0 = some r15_0 := by kernel_rfl
def a15_1 : List AV := [.v (.int .i64 73), .agg [.v (.int .i64 0), .arr 0 [], .v (.bool false), .v (.bool false), .v (.bool false), .v (.bool false), .v (.bool false), .arr 0 [], .v (.bool false), .v (.int .u32 0), .v (.int .u32 0), .v (.int .u32 0), .v (.bool false), .v (.bool false), .v (.bool false), .v (.int .i64 0), .v (.int .i64 0), .v (.bool false), .v (.bool false), .v (.int .i64 0), .arr 0 [], .arr 0 [], .arr 0 [], .arr 0 [], .v (.int .i64 0), .v (.bool false), .v (.bool false), .v (.int .i64 0), .v (.int .i64 0), .v (.int .i64 0), .v (.bool false), .v (.int .i64 0), .arr 0 [], .arr 0 [], .arr 0 [], .arr 0 []], .arr 2 [.v (.int .i64 1), .arr 1 [.v (.int .i64 1)], .arr 1 [.v (.int .u32 0)], .arr 0 [], .arr 0 [], .v (.int .i64 1), .arr 1 [.v (.int .i64 1)], .arr 1 [.v (.int .u32 1056964608)], .arr 0 [], .arr 0 []]]
def r15_1 : AV := .tuple [.agg [.v (.int .i64 1), .arr 0 [], .fresh 1 1 [.v (.int .u32 0)], .fresh 1 0 [], .fresh 1 0 []], .v (.int .i64 0)]
theorem p15_1 : k15 a15_1 = some r15_1 := by kernel_rfl
def a15_2 : List AV := [.v (.int .i64 73), .agg [.v (.int .i64 0), .arr 0 [], .v (.bool false), .v (.bool false), .v (.bool false), .v (.bool false), .v (.bool false), .arr 0 [], .v (.bool false), .v (.int .u32 0), .v (.int .u32 0), .v (.int .u32 0), .v (.bool false), .v (.bool false), .v (.bool false), .v (.int .i64 0), .v (.int .i64 0), .v (.bool false), .v (.bool false), .v (.int .i64 0), .arr 0 [], .arr 0 [], .arr 0 [], .arr 0 [], .v (.int .i64 0), .v (.bool false), .v (.bool false), .v (.int .i64 0), .v (.int .i64 0), .v (.int .i64 0), .v (.bool false), .v (.int .i64 0), .arr 0 [], .arr 0 [], .arr 0 [], .arr 0 []], .arr 2 [.v (.int .i64 1), .arr 1 [.v (.int .i64 1)], .arr 1 [.v (.int .u32 0)], .arr 0 [], .arr 0 [], .v (.int .i64 1), .arr 1 [.v (.int .i64 1)], .arr 1 [.v (.int .u32 1061158912)], .arr 0 [], .arr 0 []]]
def r15_2 : AV := .tuple [.agg [.v (.int .i64 1), .arr 0 [], .fresh 1 1 [.v (.int .u32 0)], .fresh 1 0 [], .fresh 1 0 []], .v (.int .i64 0)]
theorem p15_2 : k15 a15_2 = some r15_2 := by kernel_rfl
def a15_3 : List AV := [.v (.int .i64 73), .agg [.v (.int .i64 0), .arr 0 [], .v (.bool false), .v (.bool false), .v (.bool false), .v (.bool false), .v (.bool false), .arr 0 [], .v (.bool false), .v (.int .u32 0), .v (.int .u32 0), .v (.int .u32 0), .v (.bool false), .v (.bool false), .v (.bool false), .v (.int .i64 0), .v (.int .i64 0), .v (.bool false), .v (.bool false), .v (.int .i64 0), .arr 0 [], .arr 0 [], .arr 0 [], .arr 0 [], .v (.int .i64 0), .v (.bool false), .v (.bool false), .v (.int .i64 0), .v (.int .i64 0), .v (.int .i64 0), .v (.bool false), .v (.int .i64 0), .arr 0 [], .arr 0 [], .arr 0 [], .arr 0 []], .arr 2 [.v (.int .i64 1), .arr 1 [.v (.int .i64 1)], .arr 1 [.v (.int .u32 0)], .arr 0 [], .arr 0 [], .v (.int .i64 1), .arr 1 [.v (.int .i64 1)], .arr 1 [.v (.int .u32 1065353216)], .arr 0 [], .arr 0 []]]
def r15_3 : AV := .tuple [.agg [.v (.int .i64 1), .arr 0 [], .fresh 1 1 [.v (.int .u32 0)], .fresh 1 0 [], .fresh 1 0 []], .v (.int .i64 0)]
theorem p15_3 : k15 a15_3 = some r15_3 := by kernel_rfl
def a15_4 : List AV := [.v (.int .i64 73), .agg [.v (.int .i64 0), .arr 0 [], .v (.bool false), .v (.bool false), .v (.bool false), .v (.bool false), .v (.bool false), .arr 0 [], .v (.bool false), .v (.int .u32 0), .v (.int .u32 0), .v (.int .u32 0), .v (.bool false), .v (.bool false), .v (.bool false), .v (.int .i64 0), .v (.int .i64 0), .v (.bool false), .v (.bool false), .v (.int .i64 0), .arr 0 [], .arr 0 [], .arr 0 [], .arr 0 [], .v (.int .i64 0), .v (.bool false), .v (.bool false), .v (.int .i64 0), .v (.int .i64 0), .v (.int .i64 0), .v (.bool false), .v (.int .i64 0), .arr 0 [], .arr 0 [], .arr 0 [], .arr 0 []], .arr 2 [.v (.int .i64 1), .arr 1 [.v (.int .i64 1)], .arr 1 [.v (.int .u32 0)], .arr 0 [], .arr 0 [], .v (.int .i64 1), .arr 1 [.v (.int .i64 1)], .arr 1 [.v (.int .u32 1069547520)], .arr 0 [], .arr 0 []]]
def r15_4 : AV := .tuple [.agg [.v (.int .i64 1), .arr 0 [], .fresh 1 1 [.v (.int .u32 0)], .fresh 1 0 [], .fresh 1 0 []], .v (.int .i64 0)]
theorem p15_4 : k15 a15_4 = some r15_4 := by kernel_rfl
def a15_5 : List AV := [.v (.int .i64 73), .agg [.v (.int .i64 0), .arr 0 [], .v (.bool false), .v (.bool false), .v (.bool false), .v (.bool false), .v (.bool false), .arr 0 [], .v (.bool false), .v (.int .u32 0), .v (.int .u32 0), .v (.int .u32 0), .v (.bool false), .v (.bool false), .v (.bool false), .v (.int .i64 0), .v (.int .i64 0), .v (.bool false), .v (.bool false), .v (.int .i64 0), .arr 0 [], .arr 0 [], .arr 0 [], .arr 0 [], .v (.int .i64 0), .v (.bool false), .v (.bool false), .v (.int .i64 0), .v (.int .i64 0), .v (.int .i64 0), .v (.bool false), .v (.int .i64 0), .arr 0 [], .arr 0 [], .arr 0 [], .arr 0 []], .arr 2 [.v (.int .i64 1), .arr 1 [.v (.int .i64 1)], .arr 1 [.v (.int .u32 1082130432)], .arr 0 [], .arr 0 [], .v (.int .i64 1), .arr 1 [.v (.int .i64 1)], .arr 1 [.v (.int .u32 1074790400)], .arr 0 [], .arr 0 []]]
def r15_5 : AV := .tuple [.agg [.v (.int .i64 1), .arr 0 [], .fresh 1 1 [.v (.int .u32 1091567616)], .fresh 1 0 [], .fresh 1 0 []], .v (.int .i64 0)]
theorem p15_5 : k15 a15_5 = some r15_5 := by kernel_rfl
noncomputable def z15 : List AV → Option AV := fun xs => if sameL (sameA 8) xs a15_0 = true then some r15_0 else if sameL (sameA 8) xs a15_1 = true then some r15_1 else if sameL (sameA 8) xs a15_2 = true then some r15_2 else if sameL (sameA 8) xs a15_3 = true then some r15_3 else if sameL (sameA 8) xs a15_4 = true then some r15_4 else if sameL (sameA 8) xs a15_5 = true then some r15_5 else k15 xs
noncomputable def c77 : CallP := orC 15 z15 c76
theorem k15_ok (args : List AV) (r : AV) (h : k15 args = some r) : PureOK Tryz.prog 15 args r := by
  unfold k15 at h
  exact bodyP_ok mixed c76_ok q3_ok i15 h
theorem c77_ok : CpOK Tryz.prog c77 := orC_ok c76_ok fun args r h => by
  unfold z15 at h
  by_cases h0 : sameL (sameA 8) args a15_0 = true
  · rw [if_pos h0] at h; injection h with h; subst h; rw [sameL_eq (sameA_eq 8) h0]; exact k15_ok _ _ p15_0
  rw [if_neg h0] at h
  by_cases h1 : sameL (sameA 8) args a15_1 = true
  · rw [if_pos h1] at h; injection h with h; subst h; rw [sameL_eq (sameA_eq 8) h1]; exact k15_ok _ _ p15_1
  rw [if_neg h1] at h
  by_cases h2 : sameL (sameA 8) args a15_2 = true
  · rw [if_pos h2] at h; injection h with h; subst h; rw [sameL_eq (sameA_eq 8) h2]; exact k15_ok _ _ p15_2
  rw [if_neg h2] at h
  by_cases h3 : sameL (sameA 8) args a15_3 = true
  · rw [if_pos h3] at h; injection h with h; subst h; rw [sameL_eq (sameA_eq 8) h3]; exact k15_ok _ _ p15_3
  rw [if_neg h3] at h
  by_cases h4 : sameL (sameA 8) args a15_4 = true
  · rw [if_pos h4] at h; injection h with h; subst h; rw [sameL_eq (sameA_eq 8) h4]; exact k15_ok _ _ p15_4
  rw [if_neg h4] at h
  by_cases h5 : sameL (sameA 8) args a15_5 = true
  · rw [if_pos h5] at h; injection h with h; subst h; rw [sameL_eq (sameA_eq 8) h5]; exact k15_ok _ _ p15_5
  rw [if_neg h5] at h
  exact k15_ok _ _ h
/-! 36: lattice/quick.square -/
def d36 : List (Nat × List Nat) := [(0, []), (0, []), (0, [0, 1, 2, 3, 9, 10, 11, 12, 13, 14, 15, 16, 17, 18, 19])]
noncomputable def n36 : FInfo := ⟨bodyOf Tryz.f36, [.cell 8 46], [46]⟩
theorem i36 : finfo Tryz.prog 36 d36 = some n36 := finfo_at Tryz.func36 rfl (by kernel_rfl) (by kernel_rfl)
noncomputable def c78 : CallP := orC 36 (fun xs => bodyP Tryz.prog inl c77 q3 100 d36 n36 xs) c77
theorem c78_ok : CpOK Tryz.prog c78 := orC_ok c77_ok fun args r h => bodyP_ok mixed c77_ok q3_ok i36 h
/-! 16: lattice/quick.Square -/
def d16 : List (Nat × List Nat) := [(0, [0]), (0, [1, 7]), (0, []), (0, []), (0, []), (0, [3, 30]), (0, []), (0, []), (0, []), (0, []), (0, [9]), (0, []), (19, [5, 10, 11, 12, 13, 14, 15, 16, 17, 18, 19, 20, 21, 22, 23, 24, 25, 26, 27, 28]), (0, []), (0, [29]), (0, []), (0, []), (0, []), (0, []), (0, []), (0, [32]), (0, []), (19, [6, 33, 34, 35, 36, 37, 38, 39, 40, 41, 42, 43, 44, 45, 46, 47, 48, 49, 50, 51]), (0, []), (0, [52]), (0, []), (0, [4, 53])]
noncomputable def n16 : FInfo := ⟨bodyOf Tryz.f16, [.cell 2 47], [47]⟩
theorem i16 : finfo Tryz.prog 16 d16 = some n16 := finfo_at Tryz.func16 rfl (by kernel_rfl) (by kernel_rfl)
noncomputable def c79 : CallP := orC 16 (fun xs => bodyP Tryz.prog inl c78 q3 100 d16 n16 xs) c78
theorem c79_ok : CpOK Tryz.prog c79 := orC_ok c78_ok fun args r h => bodyP_ok mixed c78_ok q3_ok i16 h
/-! 5: lattice/latticelaw18.awake -/
def d5 : List (Nat × List Nat) := [(0, [0]), (0, [3]), (0, []), (0, []), (0, []), (0, [4]), (0, []), (0, []), (0, [12]), (0, [5, 6, 8]), (0, [14, 15]), (0, []), (0, [16, 17, 18, 19, 20, 21]), (0, []), (0, []), (0, []), (0, [22]), (0, []), (0, [24, 25]), (0, []), (0, [26, 27, 28, 29, 30, 31]), (0, []), (0, [1, 32, 33]), (0, []), (0, [2, 34, 35]), (0, []), (0, []), (0, []), (0, []), (0, []), (0, [36]), (0, []), (0, [38, 39]), (0, []), (2028027, [10, 40, 41, 42, 43, 44, 45, 46, 47, 48, 49, 50, 51, 52, 53, 54, 55, 56, 57, 58, 59, 60, 61, 62, 63, 64, 65]), (0, []), (0, [66, 67, 68]), (0, []), (0, []), (0, []), (10, [9, 70, 71, 72, 73, 74, 75, 76, 77, 78, 79]), (0, []), (0, [7, 80, 81]), (0, []), (0, [11, 82, 83, 84, 85, 86, 87, 88, 89, 90, 91, 92, 93, 94, 95, 96, 97])]
noncomputable def n5 : FInfo := ⟨bodyOf Tryz.f5, [.tmp 0], [4]⟩
theorem i5 : finfo Tryz.prog 5 d5 = some n5 := finfo_at Tryz.func5 rfl (by kernel_rfl) (by kernel_rfl)
noncomputable def c80 : CallP := orC 5 (fun xs => bodyP Tryz.prog inl c79 q3 100 d5 n5 xs) c79
theorem c80_ok : CpOK Tryz.prog c80 := orC_ok c79_ok fun args r h => bodyP_ok mixed c79_ok q3_ok i5 h
theorem aw5 : c80 5 [] = some (.v (.bool true)) := by kernel_rfl
end Aw
theorem awake5 : PureOK Tryz.prog 5 [] (.v (.bool true)) := Aw.c80_ok 5 [] _ Aw.aw5
theorem closed106 : PureOK Tryz.prog 106 [.v (.int .i64 73)] (.tuple [.v (.int .i64 2), .v (.int .i64 2), .v (.int .i64 1), .v (.int .i64 1)]) := Aw.k106_ok _ _ Aw.p106_0
theorem closed15 : PureOK Tryz.prog 15 [.v (.int .i64 73), .agg [.v (.int .i64 0), .arr 0 [], .v (.bool false), .v (.bool false), .v (.bool false), .v (.bool false), .v (.bool false), .arr 0 [], .v (.bool false), .v (.int .u32 0), .v (.int .u32 0), .v (.int .u32 0), .v (.bool false), .v (.bool false), .v (.bool false), .v (.int .i64 0), .v (.int .i64 0), .v (.bool false), .v (.bool false), .v (.int .i64 0), .arr 0 [], .arr 0 [], .arr 0 [], .arr 0 [], .v (.int .i64 0), .v (.bool false), .v (.bool false), .v (.int .i64 0), .v (.int .i64 0), .v (.int .i64 0), .v (.bool false), .v (.int .i64 0), .arr 0 [], .arr 0 [], .arr 0 [], .arr 0 []], .arr 2 [.v (.int .i64 1), .arr 1 [.v (.int .i64 1)], .arr 1 [.v (.int .u32 0)], .arr 0 [], .arr 0 [], .v (.int .i64 1), .arr 1 [.v (.int .i64 1)], .arr 1 [.v (.int .u32 1048576000)], .arr 0 [], .arr 0 []]] (.tuple [.agg [.v (.int .i64 1), .arr 0 [], .fresh 1 1 [.v (.int .u32 0)], .fresh 1 0 [], .fresh 1 0 []], .v (.int .i64 0)]) := Aw.k15_ok _ _ Aw.p15_0
end Go.Av
