/- The walks of the plain functions. Made by a program of mine. Conditions: none. -/
import Derived.Test.YtpbegnnholhkdaaGreatQ3S
import Derived.Test.YtpbegnnholhkdaaGreatQ3A
import Derived.Test.YtpbegnnholhkdaaGreatProg
set_option linter.unusedVariables false
set_option linter.unusedSimpArgs false
set_option linter.defProp false
set_option maxRecDepth 20000
open Go Go.Proofs
namespace Go.Av
theorem mixed : Tryz.prog.follows .mixedOrders = true := by kernel_rfl
def bodyOf (f : Func) : Code := f.body.getD .skip
theorem tv2 : tview Tryz.prog 2 = some (.int .i64) := by kernel_rfl
theorem ts2 : tsize Tryz.prog 2 = 1 := by kernel_rfl
def pt2 := @ptW _ _ _ tv2 rfl
def st2 := @stW _ _ ts2
theorem tv3 : tview Tryz.prog 3 = some (.int .i64) := by kernel_rfl
theorem ts3 : tsize Tryz.prog 3 = 1 := by kernel_rfl
def pt3 := @ptW _ _ _ tv3 rfl
def st3 := @stW _ _ ts3
theorem tv4 : tview Tryz.prog 4 = some (.bool) := by kernel_rfl
theorem ts4 : tsize Tryz.prog 4 = 1 := by kernel_rfl
def pt4 := @ptW _ _ _ tv4 rfl
def sb4 := @sbW _ _ ts4
theorem tv5 : tview Tryz.prog 5 = some (.int .u8) := by kernel_rfl
theorem ts5 : tsize Tryz.prog 5 = 1 := by kernel_rfl
def pt5 := @ptW _ _ _ tv5 rfl
def st5 := @stW _ _ ts5
theorem tv9 : tview Tryz.prog 9 = some (.str) := by kernel_rfl
theorem ts9 : tsize Tryz.prog 9 = 1 := by kernel_rfl
def pt9 := @ptW _ _ _ tv9 rfl
theorem le9 : ∀ {s : ByteArray}, abuiltin Tryz.prog .len #[9] [.v (.string s)] = some (.v (.int .i64 s.size)) := len_str tv9
theorem ix9 : ∀ {s : ByteArray} {i : Int}, aindex Tryz.prog 9 (.v (.string s)) i = aixS s i := ix_str tv9
theorem tv22 : tview Tryz.prog 22 = some (.slice 3 1 8) := by kernel_rfl
theorem ts22 : tsize Tryz.prog 22 = 1 := by kernel_rfl
def pt22 := @ptW _ _ _ tv22 rfl
def ia22 := @iaW _ _ _ _ _ tv22
def io22 := @ioW _ _ _ _ _ tv22
def le22 := @leW _ _ _ _ _ tv22
theorem tz3 : tzero Tryz.prog 3 = some [.v (.int .i64 0)] := by kernel_rfl
theorem mk22 : ∀ {a b : Int} {k k' : IntKind}, 0 ≤ a → a ≤ b → b ≤ 140737488355328 → b * 8 ≤ 140737488355328 → mkX Tryz.prog 22 (.v (.int k a)) (.v (.int k' b)) = some (.fresh 1 a.toNat (lm (ik .i64) (List.replicate a.toNat 0))) := mk_ik tv22 tz3
def ap22 := @apW _ _ _ _ _ _ tv22 tz3 rfl (by decide)
def bs22 := @bsW _ _ _ _ _ _ tv22 tz3 rfl (by decide)
def ao22 := @aoW _ _ _ _ _ tv22
def as22 := @asW _ _ _ _ _ tv22
def sa22 := @saW _ _ ts22
def so22 := @soW _ _ ts22
theorem tv23 : tview Tryz.prog 23 = some (.int .u32) := by kernel_rfl
theorem ts23 : tsize Tryz.prog 23 = 1 := by kernel_rfl
def pt23 := @ptW _ _ _ tv23 rfl
def st23 := @stW _ _ ts23
theorem tv24 : tview Tryz.prog 24 = some (.slice 23 1 4) := by kernel_rfl
theorem ts24 : tsize Tryz.prog 24 = 1 := by kernel_rfl
def pt24 := @ptW _ _ _ tv24 rfl
def ia24 := @iaW _ _ _ _ _ tv24
def io24 := @ioW _ _ _ _ _ tv24
def le24 := @leW _ _ _ _ _ tv24
theorem tz23 : tzero Tryz.prog 23 = some [.v (.int .u32 0)] := by kernel_rfl
theorem mk24 : ∀ {a b : Int} {k k' : IntKind}, 0 ≤ a → a ≤ b → b ≤ 140737488355328 → b * 4 ≤ 140737488355328 → mkX Tryz.prog 24 (.v (.int k a)) (.v (.int k' b)) = some (.fresh 1 a.toNat (lm (ik .u32) (List.replicate a.toNat 0))) := mk_ik tv24 tz23
def ap24 := @apW _ _ _ _ _ _ tv24 tz23 rfl (by decide)
def bs24 := @bsW _ _ _ _ _ _ tv24 tz23 rfl (by decide)
def ao24 := @aoW _ _ _ _ _ tv24
def as24 := @asW _ _ _ _ _ tv24
def sa24 := @saW _ _ ts24
def so24 := @soW _ _ ts24
theorem tv25 : tview Tryz.prog 25 = some (.slice 2 1 8) := by kernel_rfl
theorem ts25 : tsize Tryz.prog 25 = 1 := by kernel_rfl
def pt25 := @ptW _ _ _ tv25 rfl
def ia25 := @iaW _ _ _ _ _ tv25
def io25 := @ioW _ _ _ _ _ tv25
def le25 := @leW _ _ _ _ _ tv25
theorem tz2 : tzero Tryz.prog 2 = some [.v (.int .i64 0)] := by kernel_rfl
theorem mk25 : ∀ {a b : Int} {k k' : IntKind}, 0 ≤ a → a ≤ b → b ≤ 140737488355328 → b * 8 ≤ 140737488355328 → mkX Tryz.prog 25 (.v (.int k a)) (.v (.int k' b)) = some (.fresh 1 a.toNat (lm (ik .i64) (List.replicate a.toNat 0))) := mk_ik tv25 tz2
def ap25 := @apW _ _ _ _ _ _ tv25 tz2 rfl (by decide)
def bs25 := @bsW _ _ _ _ _ _ tv25 tz2 rfl (by decide)
def sa25 := @saW _ _ ts25
def so25 := @soW _ _ ts25
theorem tv26 : tview Tryz.prog 26 = some (.slice 4 1 1) := by kernel_rfl
theorem ts26 : tsize Tryz.prog 26 = 1 := by kernel_rfl
def pt26 := @ptW _ _ _ tv26 rfl
def ia26 := @iaW _ _ _ _ _ tv26
def io26 := @ioW _ _ _ _ _ tv26
def le26 := @leW _ _ _ _ _ tv26
theorem tz4 : tzero Tryz.prog 4 = some [.v (.bool false)] := by kernel_rfl
theorem mk26 : ∀ {a b : Int} {k k' : IntKind}, 0 ≤ a → a ≤ b → b ≤ 140737488355328 → b * 1 ≤ 140737488355328 → mkX Tryz.prog 26 (.v (.int k a)) (.v (.int k' b)) = some (.fresh 1 a.toNat (lm bk (List.replicate a.toNat false))) := mk_bk tv26 tz4
def ap26 := @apW _ _ _ _ _ _ tv26 tz4 rfl (by decide)
def bs26 := @bsW _ _ _ _ _ _ tv26 tz4 rfl (by decide)
def sa26 := @saW _ _ ts26
def so26 := @soW _ _ ts26
theorem tv28 : tview Tryz.prog 28 = some (.struct) := by kernel_rfl
theorem ts28 : tsize Tryz.prog 28 = 5 := by kernel_rfl
theorem pt28 : ∀ {xs : List AV} {off : Nat}, part Tryz.prog xs 28 off = if off + 5 ≤ xs.length then some (.agg ((xs.drop off).take 5)) else none := part_struct tv28 ts28
theorem sg28 : ∀ {h : Heap} {id : Id} {off : Nat} {ys : List AV}, ys.length = 5 → stX Tryz.prog 28 h (.ptr id off 0) (.agg ys) = (h.get id).bind (stH Tryz.prog 28 h id off ys) := stX_aggH ts28 (by decide)
theorem tv30 : tview Tryz.prog 30 = some (.struct) := by kernel_rfl
theorem ts30 : tsize Tryz.prog 30 = 36 := by kernel_rfl
theorem pt30 : ∀ {xs : List AV} {off : Nat}, part Tryz.prog xs 30 off = if off + 36 ≤ xs.length then some (.agg ((xs.drop off).take 36)) else none := part_struct tv30 ts30
theorem sg30 : ∀ {h : Heap} {id : Id} {off : Nat} {ys : List AV}, ys.length = 36 → stX Tryz.prog 30 h (.ptr id off 0) (.agg ys) = (h.get id).bind (stH Tryz.prog 30 h id off ys) := stX_aggH ts30 (by decide)
theorem tv32 : tview Tryz.prog 32 = some (.int .i64) := by kernel_rfl
theorem ts32 : tsize Tryz.prog 32 = 1 := by kernel_rfl
def pt32 := @ptW _ _ _ tv32 rfl
def st32 := @stW _ _ ts32
theorem tv35 : tview Tryz.prog 35 = some (.slice 28 5 104) := by kernel_rfl
theorem ts35 : tsize Tryz.prog 35 = 1 := by kernel_rfl
def pt35 := @ptW _ _ _ tv35 rfl
def ia35 := @iaW _ _ _ _ _ tv35
def io35 := @ioW _ _ _ _ _ tv35
def le35 := @leW _ _ _ _ _ tv35
theorem tz28 : tzero Tryz.prog 28 = some [.v (.int .i64 0), .v (.slice none 0 0), .v (.slice none 0 0), .v (.slice none 0 0), .v (.slice none 0 0)] := by kernel_rfl
def ap35 := @apW _ _ _ _ _ _ tv35 tz28 rfl (by decide)
theorem af35 : ∀ {lvl d m : Nat} {h : Heap} {id : Id} {n by_ : Nat} {l b : List T_Tensor}, m = b.length → n + m ≤ 140737488355328 → (n + m) * by_ ≤ 140737488355328 → appI lvl d 5 by_ h m (fm c_T_Tensor b) id n n (.sl true true 5 n (fm c_T_Tensor l)) = some (.own id 0 (n + m) (n + m), h.set id (.sl true true 5 (n + m) (fm c_T_Tensor (l ++ b)))) := fun h1 h2 h3 => appI_fm c_T_Tensor_len h1 h2 h3 (one_fm c_T_Tensor_one)
def bs35 := @bsW _ _ _ _ _ _ tv35 tz28 rfl (by decide)
def sa35 := @saW _ _ ts35
def so35 := @soW _ _ ts35
theorem tv63 : tview Tryz.prog 63 = some (.struct) := by kernel_rfl
theorem ts63 : tsize Tryz.prog 63 = 6 := by kernel_rfl
theorem pt63 : ∀ {xs : List AV} {off : Nat}, part Tryz.prog xs 63 off = if off + 6 ≤ xs.length then some (.agg ((xs.drop off).take 6)) else none := part_struct tv63 ts63
theorem sg63 : ∀ {h : Heap} {id : Id} {off : Nat} {ys : List AV}, ys.length = 6 → stX Tryz.prog 63 h (.ptr id off 0) (.agg ys) = (h.get id).bind (stH Tryz.prog 63 h id off ys) := stX_aggH ts63 (by decide)
theorem tv70 : tview Tryz.prog 70 = some (.struct) := by kernel_rfl
theorem ts70 : tsize Tryz.prog 70 = 50 := by kernel_rfl
theorem pt70 : ∀ {xs : List AV} {off : Nat}, part Tryz.prog xs 70 off = if off + 50 ≤ xs.length then some (.agg ((xs.drop off).take 50)) else none := part_struct tv70 ts70
theorem tv73 : tview Tryz.prog 73 = some (.slice 78 8 144) := by kernel_rfl
theorem ts73 : tsize Tryz.prog 73 = 1 := by kernel_rfl
def pt73 := @ptW _ _ _ tv73 rfl
def ia73 := @iaW _ _ _ _ _ tv73
def io73 := @ioW _ _ _ _ _ tv73
def le73 := @leW _ _ _ _ _ tv73
theorem tz78 : tzero Tryz.prog 78 = some [.v (.int .i64 0), .v (.slice none 0 0), .v (.bool false), .v (.int .i64 0), .v (.slice none 0 0), .v (.slice none 0 0), .v (.slice none 0 0), .v (.slice none 0 0)] := by kernel_rfl
def ap73 := @apW _ _ _ _ _ _ tv73 tz78 rfl (by decide)
theorem af73 : ∀ {lvl d m : Nat} {h : Heap} {id : Id} {n by_ : Nat} {l b : List T_Val}, m = b.length → n + m ≤ 140737488355328 → (n + m) * by_ ≤ 140737488355328 → appI lvl d 8 by_ h m (fm c_T_Val b) id n n (.sl true true 8 n (fm c_T_Val l)) = some (.own id 0 (n + m) (n + m), h.set id (.sl true true 8 (n + m) (fm c_T_Val (l ++ b)))) := fun h1 h2 h3 => appI_fm c_T_Val_len h1 h2 h3 (one_fm c_T_Val_one)
def bs73 := @bsW _ _ _ _ _ _ tv73 tz78 rfl (by decide)
def sa73 := @saW _ _ ts73
def so73 := @soW _ _ ts73
theorem tv78 : tview Tryz.prog 78 = some (.struct) := by kernel_rfl
theorem ts78 : tsize Tryz.prog 78 = 8 := by kernel_rfl
theorem pt78 : ∀ {xs : List AV} {off : Nat}, part Tryz.prog xs 78 off = if off + 8 ≤ xs.length then some (.agg ((xs.drop off).take 8)) else none := part_struct tv78 ts78
theorem sg78 : ∀ {h : Heap} {id : Id} {off : Nat} {ys : List AV}, ys.length = 8 → stX Tryz.prog 78 h (.ptr id off 0) (.agg ys) = (h.get id).bind (stH Tryz.prog 78 h id off ys) := stX_aggH ts78 (by decide)
theorem tv86 : tview Tryz.prog 86 = some (.int .u64) := by kernel_rfl
theorem ts86 : tsize Tryz.prog 86 = 1 := by kernel_rfl
def pt86 := @ptW _ _ _ tv86 rfl
def st86 := @stW _ _ ts86
theorem tv96 : tview Tryz.prog 96 = some (.struct) := by kernel_rfl
theorem ts96 : tsize Tryz.prog 96 = 39 := by kernel_rfl
theorem pt96 : ∀ {xs : List AV} {off : Nat}, part Tryz.prog xs 96 off = if off + 39 ≤ xs.length then some (.agg ((xs.drop off).take 39)) else none := part_struct tv96 ts96
theorem sg96 : ∀ {h : Heap} {id : Id} {off : Nat} {ys : List AV}, ys.length = 39 → stX Tryz.prog 96 h (.ptr id off 0) (.agg ys) = (h.get id).bind (stH Tryz.prog 96 h id off ys) := stX_aggH ts96 (by decide)
theorem tv98 : tview Tryz.prog 98 = some (.slice 22 1 24) := by kernel_rfl
theorem ts98 : tsize Tryz.prog 98 = 1 := by kernel_rfl
def pt98 := @ptW _ _ _ tv98 rfl
def ia98 := @iaW _ _ _ _ _ tv98
def io98 := @ioW _ _ _ _ _ tv98
def le98 := @leW _ _ _ _ _ tv98
theorem tz22 : tzero Tryz.prog 22 = some [.v (.slice none 0 0)] := by kernel_rfl
def bs98 := @bsW _ _ _ _ _ _ tv98 tz22 rfl (by decide)
def sa98 := @saW _ _ ts98
def so98 := @soW _ _ ts98
theorem tv119 : tview Tryz.prog 119 = some (.struct) := by kernel_rfl
theorem ts119 : tsize Tryz.prog 119 = 5 := by kernel_rfl
theorem pt119 : ∀ {xs : List AV} {off : Nat}, part Tryz.prog xs 119 off = if off + 5 ≤ xs.length then some (.agg ((xs.drop off).take 5)) else none := part_struct tv119 ts119
theorem sg119 : ∀ {h : Heap} {id : Id} {off : Nat} {ys : List AV}, ys.length = 5 → stX Tryz.prog 119 h (.ptr id off 0) (.agg ys) = (h.get id).bind (stH Tryz.prog 119 h id off ys) := stX_aggH ts119 (by decide)
theorem fo28_0 : fieldOf Tryz.prog 28 0 = some (0, 3) := by kernel_rfl
def fp28_0 := @fpW _ _ _ _ _ _ fo28_0 ts3 (by decide)
def fr28_0 := @frW _ _ _ _ _ _ fo28_0 ts3 (by decide)
theorem fo28_1 : fieldOf Tryz.prog 28 1 = some (1, 22) := by kernel_rfl
def fp28_1 := @fpW _ _ _ _ _ _ fo28_1 ts22 (by decide)
def fr28_1 := @frW _ _ _ _ _ _ fo28_1 ts22 (by decide)
theorem fo28_2 : fieldOf Tryz.prog 28 2 = some (2, 24) := by kernel_rfl
def fp28_2 := @fpW _ _ _ _ _ _ fo28_2 ts24 (by decide)
def fr28_2 := @frW _ _ _ _ _ _ fo28_2 ts24 (by decide)
theorem fo28_3 : fieldOf Tryz.prog 28 3 = some (3, 25) := by kernel_rfl
def fp28_3 := @fpW _ _ _ _ _ _ fo28_3 ts25 (by decide)
def fr28_3 := @frW _ _ _ _ _ _ fo28_3 ts25 (by decide)
theorem fo28_4 : fieldOf Tryz.prog 28 4 = some (4, 26) := by kernel_rfl
def fp28_4 := @fpW _ _ _ _ _ _ fo28_4 ts26 (by decide)
def fr28_4 := @frW _ _ _ _ _ _ fo28_4 ts26 (by decide)
theorem fo30_19 : fieldOf Tryz.prog 30 19 = some (19, 3) := by kernel_rfl
def fp30_19 := @fpW _ _ _ _ _ _ fo30_19 ts3 (by decide)
def fr30_19 := @frW _ _ _ _ _ _ fo30_19 ts3 (by decide)
theorem fo30_20 : fieldOf Tryz.prog 30 20 = some (20, 22) := by kernel_rfl
def fp30_20 := @fpW _ _ _ _ _ _ fo30_20 ts22 (by decide)
def fr30_20 := @frW _ _ _ _ _ _ fo30_20 ts22 (by decide)
theorem fo30_21 : fieldOf Tryz.prog 30 21 = some (21, 22) := by kernel_rfl
def fp30_21 := @fpW _ _ _ _ _ _ fo30_21 ts22 (by decide)
def fr30_21 := @frW _ _ _ _ _ _ fo30_21 ts22 (by decide)
theorem fo30_22 : fieldOf Tryz.prog 30 22 = some (22, 22) := by kernel_rfl
def fp30_22 := @fpW _ _ _ _ _ _ fo30_22 ts22 (by decide)
def fr30_22 := @frW _ _ _ _ _ _ fo30_22 ts22 (by decide)
theorem fo30_23 : fieldOf Tryz.prog 30 23 = some (23, 22) := by kernel_rfl
def fp30_23 := @fpW _ _ _ _ _ _ fo30_23 ts22 (by decide)
def fr30_23 := @frW _ _ _ _ _ _ fo30_23 ts22 (by decide)
theorem fo30_24 : fieldOf Tryz.prog 30 24 = some (24, 3) := by kernel_rfl
def fp30_24 := @fpW _ _ _ _ _ _ fo30_24 ts3 (by decide)
def fr30_24 := @frW _ _ _ _ _ _ fo30_24 ts3 (by decide)
theorem fo30_25 : fieldOf Tryz.prog 30 25 = some (25, 4) := by kernel_rfl
def fp30_25 := @fpW _ _ _ _ _ _ fo30_25 ts4 (by decide)
def fr30_25 := @frW _ _ _ _ _ _ fo30_25 ts4 (by decide)
theorem fo63_0 : fieldOf Tryz.prog 63 0 = some (0, 3) := by kernel_rfl
def fp63_0 := @fpW _ _ _ _ _ _ fo63_0 ts3 (by decide)
def fr63_0 := @frW _ _ _ _ _ _ fo63_0 ts3 (by decide)
theorem fo63_1 : fieldOf Tryz.prog 63 1 = some (1, 3) := by kernel_rfl
def fp63_1 := @fpW _ _ _ _ _ _ fo63_1 ts3 (by decide)
def fr63_1 := @frW _ _ _ _ _ _ fo63_1 ts3 (by decide)
theorem fo63_2 : fieldOf Tryz.prog 63 2 = some (2, 3) := by kernel_rfl
def fp63_2 := @fpW _ _ _ _ _ _ fo63_2 ts3 (by decide)
def fr63_2 := @frW _ _ _ _ _ _ fo63_2 ts3 (by decide)
theorem fo63_3 : fieldOf Tryz.prog 63 3 = some (3, 3) := by kernel_rfl
def fp63_3 := @fpW _ _ _ _ _ _ fo63_3 ts3 (by decide)
def fr63_3 := @frW _ _ _ _ _ _ fo63_3 ts3 (by decide)
theorem fo63_4 : fieldOf Tryz.prog 63 4 = some (4, 3) := by kernel_rfl
def fp63_4 := @fpW _ _ _ _ _ _ fo63_4 ts3 (by decide)
def fr63_4 := @frW _ _ _ _ _ _ fo63_4 ts3 (by decide)
theorem fo63_5 : fieldOf Tryz.prog 63 5 = some (5, 3) := by kernel_rfl
def fp63_5 := @fpW _ _ _ _ _ _ fo63_5 ts3 (by decide)
def fr63_5 := @frW _ _ _ _ _ _ fo63_5 ts3 (by decide)
theorem fo70_0 : fieldOf Tryz.prog 70 0 = some (0, 30) := by kernel_rfl
def fp70_0 := @fpW _ _ _ _ _ _ fo70_0 ts30 (by decide)
def fr70_0 := @frW _ _ _ _ _ _ fo70_0 ts30 (by decide)
theorem fo70_1 : fieldOf Tryz.prog 70 1 = some (36, 35) := by kernel_rfl
def fp70_1 := @fpW _ _ _ _ _ _ fo70_1 ts35 (by decide)
def fr70_1 := @frW _ _ _ _ _ _ fo70_1 ts35 (by decide)
theorem fo70_2 : fieldOf Tryz.prog 70 2 = some (37, 22) := by kernel_rfl
def fp70_2 := @fpW _ _ _ _ _ _ fo70_2 ts22 (by decide)
def fr70_2 := @frW _ _ _ _ _ _ fo70_2 ts22 (by decide)
theorem fo70_3 : fieldOf Tryz.prog 70 3 = some (38, 63) := by kernel_rfl
def fp70_3 := @fpW _ _ _ _ _ _ fo70_3 ts63 (by decide)
def fr70_3 := @frW _ _ _ _ _ _ fo70_3 ts63 (by decide)
theorem fo70_4 : fieldOf Tryz.prog 70 4 = some (44, 63) := by kernel_rfl
def fp70_4 := @fpW _ _ _ _ _ _ fo70_4 ts63 (by decide)
def fr70_4 := @frW _ _ _ _ _ _ fo70_4 ts63 (by decide)
theorem fo78_0 : fieldOf Tryz.prog 78 0 = some (0, 3) := by kernel_rfl
def fp78_0 := @fpW _ _ _ _ _ _ fo78_0 ts3 (by decide)
def fr78_0 := @frW _ _ _ _ _ _ fo78_0 ts3 (by decide)
theorem fd78_0 : ∀ {xs : List AV}, fdX Tryz.prog 78 0 (.agg xs) = part Tryz.prog xs 3 0 := fdX_at fo78_0
theorem fo78_1 : fieldOf Tryz.prog 78 1 = some (1, 22) := by kernel_rfl
def fp78_1 := @fpW _ _ _ _ _ _ fo78_1 ts22 (by decide)
def fr78_1 := @frW _ _ _ _ _ _ fo78_1 ts22 (by decide)
theorem fd78_1 : ∀ {xs : List AV}, fdX Tryz.prog 78 1 (.agg xs) = part Tryz.prog xs 22 1 := fdX_at fo78_1
theorem fo78_2 : fieldOf Tryz.prog 78 2 = some (2, 4) := by kernel_rfl
def fp78_2 := @fpW _ _ _ _ _ _ fo78_2 ts4 (by decide)
def fr78_2 := @frW _ _ _ _ _ _ fo78_2 ts4 (by decide)
theorem fo78_3 : fieldOf Tryz.prog 78 3 = some (3, 28) := by kernel_rfl
def fp78_3 := @fpW _ _ _ _ _ _ fo78_3 ts28 (by decide)
def fr78_3 := @frW _ _ _ _ _ _ fo78_3 ts28 (by decide)
theorem fo96_0 : fieldOf Tryz.prog 96 0 = some (0, 3) := by kernel_rfl
def fp96_0 := @fpW _ _ _ _ _ _ fo96_0 ts3 (by decide)
def fr96_0 := @frW _ _ _ _ _ _ fo96_0 ts3 (by decide)
theorem fo96_1 : fieldOf Tryz.prog 96 1 = some (1, 30) := by kernel_rfl
def fp96_1 := @fpW _ _ _ _ _ _ fo96_1 ts30 (by decide)
def fr96_1 := @frW _ _ _ _ _ _ fo96_1 ts30 (by decide)
theorem fo96_2 : fieldOf Tryz.prog 96 2 = some (37, 73) := by kernel_rfl
def fp96_2 := @fpW _ _ _ _ _ _ fo96_2 ts73 (by decide)
def fr96_2 := @frW _ _ _ _ _ _ fo96_2 ts73 (by decide)
theorem fo96_3 : fieldOf Tryz.prog 96 3 = some (38, 3) := by kernel_rfl
def fp96_3 := @fpW _ _ _ _ _ _ fo96_3 ts3 (by decide)
def fr96_3 := @frW _ _ _ _ _ _ fo96_3 ts3 (by decide)
theorem fo119_0 : fieldOf Tryz.prog 119 0 = some (0, 4) := by kernel_rfl
def fp119_0 := @fpW _ _ _ _ _ _ fo119_0 ts4 (by decide)
def fr119_0 := @frW _ _ _ _ _ _ fo119_0 ts4 (by decide)
theorem fo119_1 : fieldOf Tryz.prog 119 1 = some (1, 4) := by kernel_rfl
def fp119_1 := @fpW _ _ _ _ _ _ fo119_1 ts4 (by decide)
def fr119_1 := @frW _ _ _ _ _ _ fo119_1 ts4 (by decide)
theorem fo119_2 : fieldOf Tryz.prog 119 2 = some (2, 4) := by kernel_rfl
def fp119_2 := @fpW _ _ _ _ _ _ fo119_2 ts4 (by decide)
def fr119_2 := @frW _ _ _ _ _ _ fo119_2 ts4 (by decide)
theorem fo119_3 : fieldOf Tryz.prog 119 3 = some (3, 3) := by kernel_rfl
def fp119_3 := @fpW _ _ _ _ _ _ fo119_3 ts3 (by decide)
def fr119_3 := @frW _ _ _ _ _ _ fo119_3 ts3 (by decide)
theorem fo119_4 : fieldOf Tryz.prog 119 4 = some (4, 86) := by kernel_rfl
def fp119_4 := @fpW _ _ _ _ _ _ fo119_4 ts86 (by decide)
def fr119_4 := @frW _ _ _ _ _ _ fo119_4 ts86 (by decide)
def bl28 := @blW _ _ _ tz28 tv28
theorem fl28_0 : flP Tryz.prog 28 0 = some (0, 1) := @flW _ _ _ _ _ _ fo28_0 ts3
theorem fl28_1 : flP Tryz.prog 28 1 = some (1, 1) := @flW _ _ _ _ _ _ fo28_1 ts22
theorem fl28_2 : flP Tryz.prog 28 2 = some (2, 1) := @flW _ _ _ _ _ _ fo28_2 ts24
theorem fl28_3 : flP Tryz.prog 28 3 = some (3, 1) := @flW _ _ _ _ _ _ fo28_3 ts25
theorem fl28_4 : flP Tryz.prog 28 4 = some (4, 1) := @flW _ _ _ _ _ _ fo28_4 ts26
theorem tz63 : tzero Tryz.prog 63 = some [.v (.int .i64 0), .v (.int .i64 0), .v (.int .i64 0), .v (.int .i64 0), .v (.int .i64 0), .v (.int .i64 0)] := by kernel_rfl
def bl63 := @blW _ _ _ tz63 tv63
theorem fl63_0 : flP Tryz.prog 63 0 = some (0, 1) := @flW _ _ _ _ _ _ fo63_0 ts3
theorem fl63_1 : flP Tryz.prog 63 1 = some (1, 1) := @flW _ _ _ _ _ _ fo63_1 ts3
theorem fl63_2 : flP Tryz.prog 63 2 = some (2, 1) := @flW _ _ _ _ _ _ fo63_2 ts3
theorem fl63_3 : flP Tryz.prog 63 3 = some (3, 1) := @flW _ _ _ _ _ _ fo63_3 ts3
theorem fl63_4 : flP Tryz.prog 63 4 = some (4, 1) := @flW _ _ _ _ _ _ fo63_4 ts3
theorem fl63_5 : flP Tryz.prog 63 5 = some (5, 1) := @flW _ _ _ _ _ _ fo63_5 ts3
theorem tz70 : tzero Tryz.prog 70 = some [.v (.int .i64 0), .v (.slice none 0 0), .v (.bool false), .v (.bool false), .v (.bool false), .v (.bool false), .v (.bool false), .v (.slice none 0 0), .v (.bool false), .v (.int .u32 0), .v (.int .u32 0), .v (.int .u32 0), .v (.bool false), .v (.bool false), .v (.bool false), .v (.int .i64 0), .v (.int .i64 0), .v (.bool false), .v (.bool false), .v (.int .i64 0), .v (.slice none 0 0), .v (.slice none 0 0), .v (.slice none 0 0), .v (.slice none 0 0), .v (.int .i64 0), .v (.bool false), .v (.bool false), .v (.int .i64 0), .v (.int .i64 0), .v (.int .i64 0), .v (.bool false), .v (.int .i64 0), .v (.slice none 0 0), .v (.slice none 0 0), .v (.slice none 0 0), .v (.slice none 0 0), .v (.slice none 0 0), .v (.slice none 0 0), .v (.int .i64 0), .v (.int .i64 0), .v (.int .i64 0), .v (.int .i64 0), .v (.int .i64 0), .v (.int .i64 0), .v (.int .i64 0), .v (.int .i64 0), .v (.int .i64 0), .v (.int .i64 0), .v (.int .i64 0), .v (.int .i64 0)] := by kernel_rfl
def bl70 := @blW _ _ _ tz70 tv70
theorem fl70_0 : flP Tryz.prog 70 0 = some (0, 36) := @flW _ _ _ _ _ _ fo70_0 ts30
theorem fl70_1 : flP Tryz.prog 70 1 = some (36, 1) := @flW _ _ _ _ _ _ fo70_1 ts35
theorem fl70_2 : flP Tryz.prog 70 2 = some (37, 1) := @flW _ _ _ _ _ _ fo70_2 ts22
theorem fl70_3 : flP Tryz.prog 70 3 = some (38, 6) := @flW _ _ _ _ _ _ fo70_3 ts63
theorem fl70_4 : flP Tryz.prog 70 4 = some (44, 6) := @flW _ _ _ _ _ _ fo70_4 ts63
def bl78 := @blW _ _ _ tz78 tv78
theorem fl78_0 : flP Tryz.prog 78 0 = some (0, 1) := @flW _ _ _ _ _ _ fo78_0 ts3
theorem fl78_1 : flP Tryz.prog 78 1 = some (1, 1) := @flW _ _ _ _ _ _ fo78_1 ts22
theorem fl78_2 : flP Tryz.prog 78 2 = some (2, 1) := @flW _ _ _ _ _ _ fo78_2 ts4
theorem fl78_3 : flP Tryz.prog 78 3 = some (3, 5) := @flW _ _ _ _ _ _ fo78_3 ts28
theorem tz96 : tzero Tryz.prog 96 = some [.v (.int .i64 0), .v (.int .i64 0), .v (.slice none 0 0), .v (.bool false), .v (.bool false), .v (.bool false), .v (.bool false), .v (.bool false), .v (.slice none 0 0), .v (.bool false), .v (.int .u32 0), .v (.int .u32 0), .v (.int .u32 0), .v (.bool false), .v (.bool false), .v (.bool false), .v (.int .i64 0), .v (.int .i64 0), .v (.bool false), .v (.bool false), .v (.int .i64 0), .v (.slice none 0 0), .v (.slice none 0 0), .v (.slice none 0 0), .v (.slice none 0 0), .v (.int .i64 0), .v (.bool false), .v (.bool false), .v (.int .i64 0), .v (.int .i64 0), .v (.int .i64 0), .v (.bool false), .v (.int .i64 0), .v (.slice none 0 0), .v (.slice none 0 0), .v (.slice none 0 0), .v (.slice none 0 0), .v (.slice none 0 0), .v (.int .i64 0)] := by kernel_rfl
def bl96 := @blW _ _ _ tz96 tv96
theorem fl96_0 : flP Tryz.prog 96 0 = some (0, 1) := @flW _ _ _ _ _ _ fo96_0 ts3
theorem fl96_1 : flP Tryz.prog 96 1 = some (1, 36) := @flW _ _ _ _ _ _ fo96_1 ts30
theorem fl96_2 : flP Tryz.prog 96 2 = some (37, 1) := @flW _ _ _ _ _ _ fo96_2 ts73
theorem fl96_3 : flP Tryz.prog 96 3 = some (38, 1) := @flW _ _ _ _ _ _ fo96_3 ts3
theorem tz119 : tzero Tryz.prog 119 = some [.v (.bool false), .v (.bool false), .v (.bool false), .v (.int .i64 0), .v (.int .u64 0)] := by kernel_rfl
def bl119 := @blW _ _ _ tz119 tv119
theorem fl119_0 : flP Tryz.prog 119 0 = some (0, 1) := @flW _ _ _ _ _ _ fo119_0 ts4
theorem fl119_1 : flP Tryz.prog 119 1 = some (1, 1) := @flW _ _ _ _ _ _ fo119_1 ts4
theorem fl119_2 : flP Tryz.prog 119 2 = some (2, 1) := @flW _ _ _ _ _ _ fo119_2 ts4
theorem fl119_3 : flP Tryz.prog 119 3 = some (3, 1) := @flW _ _ _ _ _ _ fo119_3 ts3
theorem fl119_4 : flP Tryz.prog 119 4 = some (4, 1) := @flW _ _ _ _ _ _ fo119_4 ts86
def al28 := @alW _ _ _ tz28
def aq28 := @aqW _ _ _ tz28
theorem tz30 : tzero Tryz.prog 30 = some [.v (.int .i64 0), .v (.slice none 0 0), .v (.bool false), .v (.bool false), .v (.bool false), .v (.bool false), .v (.bool false), .v (.slice none 0 0), .v (.bool false), .v (.int .u32 0), .v (.int .u32 0), .v (.int .u32 0), .v (.bool false), .v (.bool false), .v (.bool false), .v (.int .i64 0), .v (.int .i64 0), .v (.bool false), .v (.bool false), .v (.int .i64 0), .v (.slice none 0 0), .v (.slice none 0 0), .v (.slice none 0 0), .v (.slice none 0 0), .v (.int .i64 0), .v (.bool false), .v (.bool false), .v (.int .i64 0), .v (.int .i64 0), .v (.int .i64 0), .v (.bool false), .v (.int .i64 0), .v (.slice none 0 0), .v (.slice none 0 0), .v (.slice none 0 0), .v (.slice none 0 0)] := by kernel_rfl
def al30 := @alW _ _ _ tz30
def aq30 := @aqW _ _ _ tz30
def al63 := @alW _ _ _ tz63
def aq63 := @aqW _ _ _ tz63
def al78 := @alW _ _ _ tz78
def aq78 := @aqW _ _ _ tz78
def al96 := @alW _ _ _ tz96
def aq96 := @aqW _ _ _ tz96
def al119 := @alW _ _ _ tz119
def aq119 := @aqW _ _ _ tz119
theorem ab4 : ∀ {op : BinOp} {a b : Bool}, abin Tryz.prog op 4 (.v (.bool a)) (.v (.bool b)) = abinB op a b := abin_bool tv4
theorem cv3_86 : ∀ {k' : IntKind} {z : Int}, cvX Tryz.prog 3 86 (.v (.int k' z)) = some (.v (.int .u64 (wk .u64 z))) := cvX_at tv3 tv86
theorem cv5_3 : ∀ {k' : IntKind} {z : Int}, cvX Tryz.prog 5 3 (.v (.int k' z)) = some (.v (.int .i64 (wk .i64 z))) := cvX_at tv5 tv3
theorem cv23_3 : ∀ {k' : IntKind} {z : Int}, cvX Tryz.prog 23 3 (.v (.int k' z)) = some (.v (.int .i64 (wk .i64 z))) := cvX_at tv23 tv3
theorem cv23_86 : ∀ {k' : IntKind} {z : Int}, cvX Tryz.prog 23 86 (.v (.int k' z)) = some (.v (.int .u64 (wk .u64 z))) := cvX_at tv23 tv86
theorem cv86_5 : ∀ {k' : IntKind} {z : Int}, cvX Tryz.prog 86 5 (.v (.int k' z)) = some (.v (.int .u8 (wk .u8 z))) := cvX_at tv86 tv5
theorem cv86_23 : ∀ {k' : IntKind} {z : Int}, cvX Tryz.prog 86 23 (.v (.int k' z)) = some (.v (.int .u32 (wk .u32 z))) := cvX_at tv86 tv23
theorem sc22 : sliceCells Tryz.prog 4 22 = [2] := by kernel_rfl
theorem ty22 : typed Tryz.prog 22 (.v (.slice none 0 0)) = .fresh 1 0 [] := ty_nil sc22
theorem sc24 : sliceCells Tryz.prog 4 24 = [2] := by kernel_rfl
theorem ty24 : typed Tryz.prog 24 (.v (.slice none 0 0)) = .fresh 1 0 [] := ty_nil sc24
theorem sc25 : sliceCells Tryz.prog 4 25 = [2] := by kernel_rfl
theorem ty25 : typed Tryz.prog 25 (.v (.slice none 0 0)) = .fresh 1 0 [] := ty_nil sc25
theorem sc26 : sliceCells Tryz.prog 4 26 = [2] := by kernel_rfl
theorem ty26 : typed Tryz.prog 26 (.v (.slice none 0 0)) = .fresh 1 0 [] := ty_nil sc26
theorem sc28 : sliceCells Tryz.prog 4 28 = [0, 2, 2, 2, 2] := by kernel_rfl
theorem ty28 : ∀ {xs : List AV}, typed Tryz.prog 28 (.agg xs) = .agg (nilNew xs [0, 2, 2, 2, 2]) := ty_agg sc28
theorem sc63 : sliceCells Tryz.prog 4 63 = [0, 0, 0, 0, 0, 0] := by kernel_rfl
theorem ty63 : ∀ {xs : List AV}, typed Tryz.prog 63 (.agg xs) = .agg (nilNew xs [0, 0, 0, 0, 0, 0]) := ty_agg sc63
theorem sc73 : sliceCells Tryz.prog 4 73 = [9] := by kernel_rfl
theorem ty73 : typed Tryz.prog 73 (.v (.slice none 0 0)) = .fresh 8 0 [] := ty_nil sc73
theorem sc78 : sliceCells Tryz.prog 4 78 = [0, 2, 0, 0, 2, 2, 2, 2] := by kernel_rfl
theorem ty78 : ∀ {xs : List AV}, typed Tryz.prog 78 (.agg xs) = .agg (nilNew xs [0, 2, 0, 0, 2, 2, 2, 2]) := ty_agg sc78
theorem sc98 : sliceCells Tryz.prog 4 98 = [2] := by kernel_rfl
theorem ty98 : typed Tryz.prog 98 (.v (.slice none 0 0)) = .fresh 1 0 [] := ty_nil sc98
theorem sc119 : sliceCells Tryz.prog 4 119 = [0, 0, 0, 0, 0] := by kernel_rfl
theorem ty119 : ∀ {xs : List AV}, typed Tryz.prog 119 (.agg xs) = .agg (nilNew xs [0, 0, 0, 0, 0]) := ty_agg sc119
theorem c_T_Tensor_at {x : T_Tensor} : c_T_Tensor x = [.v (.int .i64 x.fType), .arr x.fDims.length (lm (ik .i64) x.fDims), .arr x.fF.length (lm (ik .u32) x.fF), .arr x.fI.length (lm (ik .i64) x.fI), .arr x.fB.length (lm (bk) x.fB)] := rfl
theorem c_T_Setting_at {x : T_Setting} : c_T_Setting x = [.v (.int .i64 x.fAxis), .arr x.fAxes.length (lm (ik .i64) x.fAxes), .v (.bool x.fHasAxes), .v (.bool x.fKeep), .v (.bool x.fNoop), .v (.bool x.fLast), .v (.bool x.fZero), .arr x.fPerm.length (lm (ik .i64) x.fPerm), .v (.bool x.fHasPerm), .v (.int .u32 x.fAlpha), .v (.int .u32 x.fBeta), .v (.int .u32 x.fEpsilon), .v (.bool x.fLow), .v (.bool x.fHigh), .v (.bool x.fFmod), .v (.int .i64 x.fTo), .v (.int .i64 x.fMode), .v (.bool x.fTransA), .v (.bool x.fTransB), .v (.int .i64 x.fGroup), .arr x.fKernel.length (lm (ik .i64) x.fKernel), .arr x.fStrides.length (lm (ik .i64) x.fStrides), .arr x.fPads.length (lm (ik .i64) x.fPads), .arr x.fDilations.length (lm (ik .i64) x.fDilations), .v (.int .i64 x.fAuto), .v (.bool x.fCeil), .v (.bool x.fCount), .v (.int .i64 x.fBlock), .v (.int .i64 x.fStart), .v (.int .i64 x.fEnd), .v (.bool x.fHasEnd), .v (.int .i64 x.fValue.fType), .arr x.fValue.fDims.length (lm (ik .i64) x.fValue.fDims), .arr x.fValue.fF.length (lm (ik .u32) x.fValue.fF), .arr x.fValue.fI.length (lm (ik .i64) x.fValue.fI), .arr x.fValue.fB.length (lm (bk) x.fValue.fB)] := rfl
theorem c_T_Val_at {x : T_Val} : c_T_Val x = [.v (.int .i64 x.fType), .arr x.fDims.length (lm (ik .i64) x.fDims), .v (.bool x.fConst), .v (.int .i64 x.fT.fType), .arr x.fT.fDims.length (lm (ik .i64) x.fT.fDims), .arr x.fT.fF.length (lm (ik .u32) x.fT.fF), .arr x.fT.fI.length (lm (ik .i64) x.fT.fI), .arr x.fT.fB.length (lm (bk) x.fT.fB)] := rfl
theorem c_T_infer_ask_at {x : T_infer_ask} : c_T_infer_ask x = [.v (.int .i64 x.fop), .v (.int .i64 x.fs.fAxis), .arr x.fs.fAxes.length (lm (ik .i64) x.fs.fAxes), .v (.bool x.fs.fHasAxes), .v (.bool x.fs.fKeep), .v (.bool x.fs.fNoop), .v (.bool x.fs.fLast), .v (.bool x.fs.fZero), .arr x.fs.fPerm.length (lm (ik .i64) x.fs.fPerm), .v (.bool x.fs.fHasPerm), .v (.int .u32 x.fs.fAlpha), .v (.int .u32 x.fs.fBeta), .v (.int .u32 x.fs.fEpsilon), .v (.bool x.fs.fLow), .v (.bool x.fs.fHigh), .v (.bool x.fs.fFmod), .v (.int .i64 x.fs.fTo), .v (.int .i64 x.fs.fMode), .v (.bool x.fs.fTransA), .v (.bool x.fs.fTransB), .v (.int .i64 x.fs.fGroup), .arr x.fs.fKernel.length (lm (ik .i64) x.fs.fKernel), .arr x.fs.fStrides.length (lm (ik .i64) x.fs.fStrides), .arr x.fs.fPads.length (lm (ik .i64) x.fs.fPads), .arr x.fs.fDilations.length (lm (ik .i64) x.fs.fDilations), .v (.int .i64 x.fs.fAuto), .v (.bool x.fs.fCeil), .v (.bool x.fs.fCount), .v (.int .i64 x.fs.fBlock), .v (.int .i64 x.fs.fStart), .v (.int .i64 x.fs.fEnd), .v (.bool x.fs.fHasEnd), .v (.int .i64 x.fs.fValue.fType), .arr x.fs.fValue.fDims.length (lm (ik .i64) x.fs.fValue.fDims), .arr x.fs.fValue.fF.length (lm (ik .u32) x.fs.fValue.fF), .arr x.fs.fValue.fI.length (lm (ik .i64) x.fs.fValue.fI), .arr x.fs.fValue.fB.length (lm (bk) x.fs.fValue.fB), .arr x.fin.length (fm c_T_Val x.fin), .v (.int .i64 x.fouts)] := rfl
theorem c_T_conv_axis_at {x : T_conv_axis} : c_T_conv_axis x = [.v (.int .i64 x.fsize), .v (.int .i64 x.fkernel), .v (.int .i64 x.fstride), .v (.int .i64 x.fdilation), .v (.int .i64 x.fahead), .v (.int .i64 x.fwindows)] := rfl
theorem c_T_conv_work_at {x : T_conv_work} : c_T_conv_work x = [.v (.int .i64 x.fs.fAxis), .arr x.fs.fAxes.length (lm (ik .i64) x.fs.fAxes), .v (.bool x.fs.fHasAxes), .v (.bool x.fs.fKeep), .v (.bool x.fs.fNoop), .v (.bool x.fs.fLast), .v (.bool x.fs.fZero), .arr x.fs.fPerm.length (lm (ik .i64) x.fs.fPerm), .v (.bool x.fs.fHasPerm), .v (.int .u32 x.fs.fAlpha), .v (.int .u32 x.fs.fBeta), .v (.int .u32 x.fs.fEpsilon), .v (.bool x.fs.fLow), .v (.bool x.fs.fHigh), .v (.bool x.fs.fFmod), .v (.int .i64 x.fs.fTo), .v (.int .i64 x.fs.fMode), .v (.bool x.fs.fTransA), .v (.bool x.fs.fTransB), .v (.int .i64 x.fs.fGroup), .arr x.fs.fKernel.length (lm (ik .i64) x.fs.fKernel), .arr x.fs.fStrides.length (lm (ik .i64) x.fs.fStrides), .arr x.fs.fPads.length (lm (ik .i64) x.fs.fPads), .arr x.fs.fDilations.length (lm (ik .i64) x.fs.fDilations), .v (.int .i64 x.fs.fAuto), .v (.bool x.fs.fCeil), .v (.bool x.fs.fCount), .v (.int .i64 x.fs.fBlock), .v (.int .i64 x.fs.fStart), .v (.int .i64 x.fs.fEnd), .v (.bool x.fs.fHasEnd), .v (.int .i64 x.fs.fValue.fType), .arr x.fs.fValue.fDims.length (lm (ik .i64) x.fs.fValue.fDims), .arr x.fs.fValue.fF.length (lm (ik .u32) x.fs.fValue.fF), .arr x.fs.fValue.fI.length (lm (ik .i64) x.fs.fValue.fI), .arr x.fs.fValue.fB.length (lm (bk) x.fs.fValue.fB), .arr x.fin.length (fm c_T_Tensor x.fin), .arr x.fdims.length (lm (ik .i64) x.fdims), .v (.int .i64 x.fh.fsize), .v (.int .i64 x.fh.fkernel), .v (.int .i64 x.fh.fstride), .v (.int .i64 x.fh.fdilation), .v (.int .i64 x.fh.fahead), .v (.int .i64 x.fh.fwindows), .v (.int .i64 x.fw.fsize), .v (.int .i64 x.fw.fkernel), .v (.int .i64 x.fw.fstride), .v (.int .i64 x.fw.fdilation), .v (.int .i64 x.fw.fahead), .v (.int .i64 x.fw.fwindows)] := rfl
theorem c_T_soft_number_at {x : T_soft_number} : c_T_soft_number x = [.v (.bool x.fneg), .v (.bool x.fnan), .v (.bool x.finf), .v (.int .i64 x.fexp), .v (.int .u64 x.fsig)] := rfl
theorem c_T_Tensor_inj : Inj c_T_Tensor := by
  intro a b h
  obtain ⟨a0, a1, a2, a3, a4⟩ := a
  obtain ⟨b0, b1, b2, b3, b4⟩ := b
  simp only [c_T_Tensor_at, INJ] at h
  simp_all
theorem c_T_Setting_inj : Inj c_T_Setting := by
  intro a b h
  obtain ⟨a0, a1, a2, a3, a4, a5, a6, a7, a8, a9, a10, a11, a12, a13, a14, a15, a16, a17, a18, a19, a20, a21, a22, a23, a24, a25, a26, a27, a28, a29, a30, ⟨a_310, a_311, a_312, a_313, a_314⟩⟩ := a
  obtain ⟨b0, b1, b2, b3, b4, b5, b6, b7, b8, b9, b10, b11, b12, b13, b14, b15, b16, b17, b18, b19, b20, b21, b22, b23, b24, b25, b26, b27, b28, b29, b30, ⟨b_310, b_311, b_312, b_313, b_314⟩⟩ := b
  simp only [c_T_Setting_at, INJ, @c_inj_iff _ _ c_T_Tensor_inj, @lm_inj_iff _ _ (inj_avf (inj_fm c_T_Tensor_len (by decide) c_T_Tensor_inj)), @fm_inj_iff _ _ (inj_fm c_T_Tensor_len (by decide) c_T_Tensor_inj)] at h
  simp_all
theorem c_T_Val_inj : Inj c_T_Val := by
  intro a b h
  obtain ⟨a0, a1, a2, ⟨a_30, a_31, a_32, a_33, a_34⟩⟩ := a
  obtain ⟨b0, b1, b2, ⟨b_30, b_31, b_32, b_33, b_34⟩⟩ := b
  simp only [c_T_Val_at, INJ, @c_inj_iff _ _ c_T_Tensor_inj, @lm_inj_iff _ _ (inj_avf (inj_fm c_T_Tensor_len (by decide) c_T_Tensor_inj)), @fm_inj_iff _ _ (inj_fm c_T_Tensor_len (by decide) c_T_Tensor_inj), @c_inj_iff _ _ c_T_Setting_inj, @lm_inj_iff _ _ (inj_avf (inj_fm c_T_Setting_len (by decide) c_T_Setting_inj)), @fm_inj_iff _ _ (inj_fm c_T_Setting_len (by decide) c_T_Setting_inj)] at h
  simp_all
theorem c_T_infer_ask_inj : Inj c_T_infer_ask := by
  intro a b h
  obtain ⟨a0, ⟨a_10, a_11, a_12, a_13, a_14, a_15, a_16, a_17, a_18, a_19, a_110, a_111, a_112, a_113, a_114, a_115, a_116, a_117, a_118, a_119, a_120, a_121, a_122, a_123, a_124, a_125, a_126, a_127, a_128, a_129, a_130, ⟨a_1_310, a_1_311, a_1_312, a_1_313, a_1_314⟩⟩, a2, a3⟩ := a
  obtain ⟨b0, ⟨b_10, b_11, b_12, b_13, b_14, b_15, b_16, b_17, b_18, b_19, b_110, b_111, b_112, b_113, b_114, b_115, b_116, b_117, b_118, b_119, b_120, b_121, b_122, b_123, b_124, b_125, b_126, b_127, b_128, b_129, b_130, ⟨b_1_310, b_1_311, b_1_312, b_1_313, b_1_314⟩⟩, b2, b3⟩ := b
  simp only [c_T_infer_ask_at, INJ, @c_inj_iff _ _ c_T_Tensor_inj, @lm_inj_iff _ _ (inj_avf (inj_fm c_T_Tensor_len (by decide) c_T_Tensor_inj)), @fm_inj_iff _ _ (inj_fm c_T_Tensor_len (by decide) c_T_Tensor_inj), @c_inj_iff _ _ c_T_Setting_inj, @lm_inj_iff _ _ (inj_avf (inj_fm c_T_Setting_len (by decide) c_T_Setting_inj)), @fm_inj_iff _ _ (inj_fm c_T_Setting_len (by decide) c_T_Setting_inj), @c_inj_iff _ _ c_T_Val_inj, @lm_inj_iff _ _ (inj_avf (inj_fm c_T_Val_len (by decide) c_T_Val_inj)), @fm_inj_iff _ _ (inj_fm c_T_Val_len (by decide) c_T_Val_inj)] at h
  simp_all
theorem c_T_conv_axis_inj : Inj c_T_conv_axis := by
  intro a b h
  obtain ⟨a0, a1, a2, a3, a4, a5⟩ := a
  obtain ⟨b0, b1, b2, b3, b4, b5⟩ := b
  simp only [c_T_conv_axis_at, INJ, @c_inj_iff _ _ c_T_Tensor_inj, @lm_inj_iff _ _ (inj_avf (inj_fm c_T_Tensor_len (by decide) c_T_Tensor_inj)), @fm_inj_iff _ _ (inj_fm c_T_Tensor_len (by decide) c_T_Tensor_inj), @c_inj_iff _ _ c_T_Setting_inj, @lm_inj_iff _ _ (inj_avf (inj_fm c_T_Setting_len (by decide) c_T_Setting_inj)), @fm_inj_iff _ _ (inj_fm c_T_Setting_len (by decide) c_T_Setting_inj), @c_inj_iff _ _ c_T_Val_inj, @lm_inj_iff _ _ (inj_avf (inj_fm c_T_Val_len (by decide) c_T_Val_inj)), @fm_inj_iff _ _ (inj_fm c_T_Val_len (by decide) c_T_Val_inj), @c_inj_iff _ _ c_T_infer_ask_inj, @lm_inj_iff _ _ (inj_avf (inj_fm c_T_infer_ask_len (by decide) c_T_infer_ask_inj)), @fm_inj_iff _ _ (inj_fm c_T_infer_ask_len (by decide) c_T_infer_ask_inj)] at h
  simp_all
theorem c_T_conv_work_inj : Inj c_T_conv_work := by
  intro a b h
  obtain ⟨⟨a_00, a_01, a_02, a_03, a_04, a_05, a_06, a_07, a_08, a_09, a_010, a_011, a_012, a_013, a_014, a_015, a_016, a_017, a_018, a_019, a_020, a_021, a_022, a_023, a_024, a_025, a_026, a_027, a_028, a_029, a_030, ⟨a_0_310, a_0_311, a_0_312, a_0_313, a_0_314⟩⟩, a1, a2, ⟨a_30, a_31, a_32, a_33, a_34, a_35⟩, ⟨a_40, a_41, a_42, a_43, a_44, a_45⟩⟩ := a
  obtain ⟨⟨b_00, b_01, b_02, b_03, b_04, b_05, b_06, b_07, b_08, b_09, b_010, b_011, b_012, b_013, b_014, b_015, b_016, b_017, b_018, b_019, b_020, b_021, b_022, b_023, b_024, b_025, b_026, b_027, b_028, b_029, b_030, ⟨b_0_310, b_0_311, b_0_312, b_0_313, b_0_314⟩⟩, b1, b2, ⟨b_30, b_31, b_32, b_33, b_34, b_35⟩, ⟨b_40, b_41, b_42, b_43, b_44, b_45⟩⟩ := b
  simp only [c_T_conv_work_at, INJ, @c_inj_iff _ _ c_T_Tensor_inj, @lm_inj_iff _ _ (inj_avf (inj_fm c_T_Tensor_len (by decide) c_T_Tensor_inj)), @fm_inj_iff _ _ (inj_fm c_T_Tensor_len (by decide) c_T_Tensor_inj), @c_inj_iff _ _ c_T_Setting_inj, @lm_inj_iff _ _ (inj_avf (inj_fm c_T_Setting_len (by decide) c_T_Setting_inj)), @fm_inj_iff _ _ (inj_fm c_T_Setting_len (by decide) c_T_Setting_inj), @c_inj_iff _ _ c_T_Val_inj, @lm_inj_iff _ _ (inj_avf (inj_fm c_T_Val_len (by decide) c_T_Val_inj)), @fm_inj_iff _ _ (inj_fm c_T_Val_len (by decide) c_T_Val_inj), @c_inj_iff _ _ c_T_infer_ask_inj, @lm_inj_iff _ _ (inj_avf (inj_fm c_T_infer_ask_len (by decide) c_T_infer_ask_inj)), @fm_inj_iff _ _ (inj_fm c_T_infer_ask_len (by decide) c_T_infer_ask_inj), @c_inj_iff _ _ c_T_conv_axis_inj, @lm_inj_iff _ _ (inj_avf (inj_fm c_T_conv_axis_len (by decide) c_T_conv_axis_inj)), @fm_inj_iff _ _ (inj_fm c_T_conv_axis_len (by decide) c_T_conv_axis_inj)] at h
  simp_all
theorem c_T_soft_number_inj : Inj c_T_soft_number := by
  intro a b h
  obtain ⟨a0, a1, a2, a3, a4⟩ := a
  obtain ⟨b0, b1, b2, b3, b4⟩ := b
  simp only [c_T_soft_number_at, INJ, @c_inj_iff _ _ c_T_Tensor_inj, @lm_inj_iff _ _ (inj_avf (inj_fm c_T_Tensor_len (by decide) c_T_Tensor_inj)), @fm_inj_iff _ _ (inj_fm c_T_Tensor_len (by decide) c_T_Tensor_inj), @c_inj_iff _ _ c_T_Setting_inj, @lm_inj_iff _ _ (inj_avf (inj_fm c_T_Setting_len (by decide) c_T_Setting_inj)), @fm_inj_iff _ _ (inj_fm c_T_Setting_len (by decide) c_T_Setting_inj), @c_inj_iff _ _ c_T_Val_inj, @lm_inj_iff _ _ (inj_avf (inj_fm c_T_Val_len (by decide) c_T_Val_inj)), @fm_inj_iff _ _ (inj_fm c_T_Val_len (by decide) c_T_Val_inj), @c_inj_iff _ _ c_T_infer_ask_inj, @lm_inj_iff _ _ (inj_avf (inj_fm c_T_infer_ask_len (by decide) c_T_infer_ask_inj)), @fm_inj_iff _ _ (inj_fm c_T_infer_ask_len (by decide) c_T_infer_ask_inj), @c_inj_iff _ _ c_T_conv_axis_inj, @lm_inj_iff _ _ (inj_avf (inj_fm c_T_conv_axis_len (by decide) c_T_conv_axis_inj)), @fm_inj_iff _ _ (inj_fm c_T_conv_axis_len (by decide) c_T_conv_axis_inj), @c_inj_iff _ _ c_T_conv_work_inj, @lm_inj_iff _ _ (inj_avf (inj_fm c_T_conv_work_len (by decide) c_T_conv_work_inj)), @fm_inj_iff _ _ (inj_fm c_T_conv_work_len (by decide) c_T_conv_work_inj)] at h
  simp_all
def TT0 := And.intro @ts2 <| And.intro @pt2 <| And.intro @st2 <| And.intro @ts3 <| And.intro @pt3 <| And.intro @st3 <| And.intro @ts4 <| And.intro @pt4 <| And.intro @sb4 <| And.intro @ts5 <| And.intro @pt5 <| And.intro @st5 <| And.intro @ts9 <| And.intro @pt9 <| And.intro @le9 <| And.intro @ix9 <| And.intro @ts22 <| And.intro @pt22 <| And.intro @ia22 <| And.intro @io22 <| And.intro @le22 <| And.intro @mk22 <| And.intro @ap22 <| And.intro @bs22 <| And.intro @ao22 <| And.intro @as22 <| And.intro @sa22 <| And.intro @so22 <| And.intro @ts23 <| And.intro @pt23 <| And.intro @st23 <| And.intro @ts24 <| And.intro @pt24 <| And.intro @ia24 <| And.intro @io24 <| And.intro @le24 <| And.intro @mk24 <| And.intro @ap24 <| And.intro @bs24 <| @ao24
def TT1 := And.intro @as24 <| And.intro @sa24 <| And.intro @so24 <| And.intro @ts25 <| And.intro @pt25 <| And.intro @ia25 <| And.intro @io25 <| And.intro @le25 <| And.intro @mk25 <| And.intro @ap25 <| And.intro @bs25 <| And.intro @sa25 <| And.intro @so25 <| And.intro @ts26 <| And.intro @pt26 <| And.intro @ia26 <| And.intro @io26 <| And.intro @le26 <| And.intro @mk26 <| And.intro @ap26 <| And.intro @bs26 <| And.intro @sa26 <| And.intro @so26 <| And.intro @ts28 <| And.intro @pt28 <| And.intro @sg28 <| And.intro @ts30 <| And.intro @pt30 <| And.intro @sg30 <| And.intro @ts32 <| And.intro @pt32 <| And.intro @st32 <| And.intro @ts35 <| And.intro @pt35 <| And.intro @ia35 <| And.intro @io35 <| And.intro @le35 <| And.intro @ap35 <| And.intro @af35 <| @bs35
def TT2 := And.intro @sa35 <| And.intro @so35 <| And.intro @ts63 <| And.intro @pt63 <| And.intro @sg63 <| And.intro @ts70 <| And.intro @pt70 <| And.intro @ts73 <| And.intro @pt73 <| And.intro @ia73 <| And.intro @io73 <| And.intro @le73 <| And.intro @ap73 <| And.intro @af73 <| And.intro @bs73 <| And.intro @sa73 <| And.intro @so73 <| And.intro @ts78 <| And.intro @pt78 <| And.intro @sg78 <| And.intro @ts86 <| And.intro @pt86 <| And.intro @st86 <| And.intro @ts96 <| And.intro @pt96 <| And.intro @sg96 <| And.intro @ts98 <| And.intro @pt98 <| And.intro @ia98 <| And.intro @io98 <| And.intro @le98 <| And.intro @bs98 <| And.intro @sa98 <| And.intro @so98 <| And.intro @ts119 <| And.intro @pt119 <| And.intro @sg119 <| And.intro @fo28_0 <| And.intro @fp28_0 <| @fr28_0
def TT3 := And.intro @fo28_1 <| And.intro @fp28_1 <| And.intro @fr28_1 <| And.intro @fo28_2 <| And.intro @fp28_2 <| And.intro @fr28_2 <| And.intro @fo28_3 <| And.intro @fp28_3 <| And.intro @fr28_3 <| And.intro @fo28_4 <| And.intro @fp28_4 <| And.intro @fr28_4 <| And.intro @fo30_19 <| And.intro @fp30_19 <| And.intro @fr30_19 <| And.intro @fo30_20 <| And.intro @fp30_20 <| And.intro @fr30_20 <| And.intro @fo30_21 <| And.intro @fp30_21 <| And.intro @fr30_21 <| And.intro @fo30_22 <| And.intro @fp30_22 <| And.intro @fr30_22 <| And.intro @fo30_23 <| And.intro @fp30_23 <| And.intro @fr30_23 <| And.intro @fo30_24 <| And.intro @fp30_24 <| And.intro @fr30_24 <| And.intro @fo30_25 <| And.intro @fp30_25 <| And.intro @fr30_25 <| And.intro @fo63_0 <| And.intro @fp63_0 <| And.intro @fr63_0 <| And.intro @fo63_1 <| And.intro @fp63_1 <| And.intro @fr63_1 <| @fo63_2
def TT4 := And.intro @fp63_2 <| And.intro @fr63_2 <| And.intro @fo63_3 <| And.intro @fp63_3 <| And.intro @fr63_3 <| And.intro @fo63_4 <| And.intro @fp63_4 <| And.intro @fr63_4 <| And.intro @fo63_5 <| And.intro @fp63_5 <| And.intro @fr63_5 <| And.intro @fo70_0 <| And.intro @fp70_0 <| And.intro @fr70_0 <| And.intro @fo70_1 <| And.intro @fp70_1 <| And.intro @fr70_1 <| And.intro @fo70_2 <| And.intro @fp70_2 <| And.intro @fr70_2 <| And.intro @fo70_3 <| And.intro @fp70_3 <| And.intro @fr70_3 <| And.intro @fo70_4 <| And.intro @fp70_4 <| And.intro @fr70_4 <| And.intro @fo78_0 <| And.intro @fp78_0 <| And.intro @fr78_0 <| And.intro @fd78_0 <| And.intro @fo78_1 <| And.intro @fp78_1 <| And.intro @fr78_1 <| And.intro @fd78_1 <| And.intro @fo78_2 <| And.intro @fp78_2 <| And.intro @fr78_2 <| And.intro @fo78_3 <| And.intro @fp78_3 <| @fr78_3
def TT5 := And.intro @fo96_0 <| And.intro @fp96_0 <| And.intro @fr96_0 <| And.intro @fo96_1 <| And.intro @fp96_1 <| And.intro @fr96_1 <| And.intro @fo96_2 <| And.intro @fp96_2 <| And.intro @fr96_2 <| And.intro @fo96_3 <| And.intro @fp96_3 <| And.intro @fr96_3 <| And.intro @fo119_0 <| And.intro @fp119_0 <| And.intro @fr119_0 <| And.intro @fo119_1 <| And.intro @fp119_1 <| And.intro @fr119_1 <| And.intro @fo119_2 <| And.intro @fp119_2 <| And.intro @fr119_2 <| And.intro @fo119_3 <| And.intro @fp119_3 <| And.intro @fr119_3 <| And.intro @fo119_4 <| And.intro @fp119_4 <| And.intro @fr119_4 <| And.intro @bl28 <| And.intro @fl28_0 <| And.intro @fl28_1 <| And.intro @fl28_2 <| And.intro @fl28_3 <| And.intro @fl28_4 <| And.intro @bl63 <| And.intro @fl63_0 <| And.intro @fl63_1 <| And.intro @fl63_2 <| And.intro @fl63_3 <| And.intro @fl63_4 <| @fl63_5
def TT6 := And.intro @bl70 <| And.intro @fl70_0 <| And.intro @fl70_1 <| And.intro @fl70_2 <| And.intro @fl70_3 <| And.intro @fl70_4 <| And.intro @bl78 <| And.intro @fl78_0 <| And.intro @fl78_1 <| And.intro @fl78_2 <| And.intro @fl78_3 <| And.intro @bl96 <| And.intro @fl96_0 <| And.intro @fl96_1 <| And.intro @fl96_2 <| And.intro @fl96_3 <| And.intro @bl119 <| And.intro @fl119_0 <| And.intro @fl119_1 <| And.intro @fl119_2 <| And.intro @fl119_3 <| And.intro @fl119_4 <| And.intro @al28 <| And.intro @aq28 <| And.intro @al30 <| And.intro @aq30 <| And.intro @al63 <| And.intro @aq63 <| And.intro @al78 <| And.intro @aq78 <| And.intro @al96 <| And.intro @aq96 <| And.intro @al119 <| And.intro @aq119 <| And.intro @ab4 <| And.intro @cv3_86 <| And.intro @cv5_3 <| And.intro @cv23_3 <| And.intro @cv23_86 <| @cv86_5
def TT7 := And.intro @cv86_23 <| And.intro @ty22 <| And.intro @ty24 <| And.intro @ty25 <| And.intro @ty26 <| And.intro @ty28 <| And.intro @ty63 <| And.intro @ty73 <| And.intro @ty78 <| And.intro @ty98 <| And.intro @ty119 <| And.intro @c_T_Tensor_at <| And.intro (fun l => @one_fm _ c_T_Tensor l c_T_Tensor_one) <| And.intro @c_T_Setting_at <| And.intro (fun l => @one_fm _ c_T_Setting l c_T_Setting_one) <| And.intro @c_T_Val_at <| And.intro (fun l => @one_fm _ c_T_Val l c_T_Val_one) <| And.intro @c_T_infer_ask_at <| And.intro (fun l => @one_fm _ c_T_infer_ask l c_T_infer_ask_one) <| And.intro @c_T_conv_axis_at <| And.intro (fun l => @one_fm _ c_T_conv_axis l c_T_conv_axis_one) <| And.intro @c_T_conv_work_at <| And.intro (fun l => @one_fm _ c_T_conv_work l c_T_conv_work_one) <| And.intro @c_T_soft_number_at <| (fun l => @one_fm _ c_T_soft_number l c_T_soft_number_one)
def TT := And.intro @TT0 <| And.intro @TT1 <| And.intro @TT2 <| And.intro @TT3 <| And.intro @TT4 <| And.intro @TT5 <| And.intro @TT6 <| @TT7
def OF := And.intro (fun l => @one_fm _ c_T_Tensor l c_T_Tensor_one) <| And.intro (fun l => @one_fm _ c_T_Setting l c_T_Setting_one) <| And.intro (fun l => @one_fm _ c_T_Val l c_T_Val_one) <| And.intro (fun l => @one_fm _ c_T_infer_ask l c_T_infer_ask_one) <| And.intro (fun l => @one_fm _ c_T_conv_axis l c_T_conv_axis_one) <| And.intro (fun l => @one_fm _ c_T_conv_work l c_T_conv_work_one) <| (fun l => @one_fm _ c_T_soft_number l c_T_soft_number_one)
def NT := And.intro @c_T_Tensor_at <| And.intro @c_T_Setting_at <| And.intro @c_T_Val_at <| And.intro @c_T_infer_ask_at <| And.intro @c_T_conv_axis_at <| And.intro @c_T_conv_work_at <| @c_T_soft_number_at
def OZ := And.intro LN <| And.intro RO OF
theorem Zd {p : Prop} (h : p := by first | assumption | decide | with_unfolding_all rfl | omega | simp only [OZ] <;> omega | fail) : p := h
theorem Ze {p : Prop} (h : p := by first | rfl | (simp only [LN, NN, NT])) : p := h
theorem Zh {p : Prop} (h : p := by first | (simp (disch := first | exact Zd | fail) only [RR, simprocAttr, LN, NN, NT]; done) | (simp (disch := first | exact Zd | fail) only [RR, simprocAttr, LN, fm_app, NN, NT]; done) | rfl) : p := h
def FN := And.intro FF <| And.intro LN <| And.intro NN NT
def ZZ := And.intro RR <| And.intro RM <| And.intro LN <| And.intro TT RH
def IJ := And.intro (@c_inj_iff _ _ c_T_Tensor_inj) <| And.intro (@lm_inj_iff _ _ (inj_avf (inj_fm c_T_Tensor_len (by decide) c_T_Tensor_inj))) <| And.intro (@fm_inj_iff _ _ (inj_fm c_T_Tensor_len (by decide) c_T_Tensor_inj)) <| And.intro (@c_inj_iff _ _ c_T_Setting_inj) <| And.intro (@lm_inj_iff _ _ (inj_avf (inj_fm c_T_Setting_len (by decide) c_T_Setting_inj))) <| And.intro (@fm_inj_iff _ _ (inj_fm c_T_Setting_len (by decide) c_T_Setting_inj)) <| And.intro (@c_inj_iff _ _ c_T_Val_inj) <| And.intro (@lm_inj_iff _ _ (inj_avf (inj_fm c_T_Val_len (by decide) c_T_Val_inj))) <| And.intro (@fm_inj_iff _ _ (inj_fm c_T_Val_len (by decide) c_T_Val_inj)) <| And.intro (@c_inj_iff _ _ c_T_infer_ask_inj) <| And.intro (@lm_inj_iff _ _ (inj_avf (inj_fm c_T_infer_ask_len (by decide) c_T_infer_ask_inj))) <| And.intro (@fm_inj_iff _ _ (inj_fm c_T_infer_ask_len (by decide) c_T_infer_ask_inj)) <| And.intro (@c_inj_iff _ _ c_T_conv_axis_inj) <| And.intro (@lm_inj_iff _ _ (inj_avf (inj_fm c_T_conv_axis_len (by decide) c_T_conv_axis_inj))) <| And.intro (@fm_inj_iff _ _ (inj_fm c_T_conv_axis_len (by decide) c_T_conv_axis_inj)) <| And.intro (@c_inj_iff _ _ c_T_conv_work_inj) <| And.intro (@lm_inj_iff _ _ (inj_avf (inj_fm c_T_conv_work_len (by decide) c_T_conv_work_inj))) <| And.intro (@fm_inj_iff _ _ (inj_fm c_T_conv_work_len (by decide) c_T_conv_work_inj)) <| And.intro (@c_inj_iff _ _ c_T_soft_number_inj) <| And.intro (@lm_inj_iff _ _ (inj_avf (inj_fm c_T_soft_number_len (by decide) c_T_soft_number_inj))) <| (@fm_inj_iff _ _ (inj_fm c_T_soft_number_len (by decide) c_T_soft_number_inj))
theorem Zi {p : Prop} (h : p := by intro a b h; first | (exact rfl) | (simp only [INJ, IJ] at h; first | exact h | (simp_all [Prod.ext_iff]) )) : p := h
def ZG := And.intro ZZ <| And.intro RU <| And.intro @go_seq <| And.intro @ret_seq <| And.intro @Nat.sub_zero @Nat.zero_le
def ZN := And.intro ZZ RU
theorem Jg {β : Type} {m m' : Option AV} {s : Option β} {enc : β → AV} (j : J m' s enc) (h : m = m' := by conv => lhs; try simp (maxSteps := 20000000) (disch := first | exact Zd | fail) only [ZG, simprocAttr, *]) : J m s enc := J.eq h j
theorem Jn {β : Type} {m m' : Option AV} {s : Option β} {enc : β → AV} {i : Nat} {ρ τ : Type} {r : ρ} {fj : τ → Option β} (j : J m' (jn i r fj s) enc) (h : m = m' := by conv => lhs; simp (maxSteps := 20000000) (disch := first | exact Zd | fail) only [ZN, simprocAttr, *]) : J m (jn i r fj s) enc := J.eq h j
theorem Jk {β : Type} {m m' : Option AV} {s : Option β} {enc : β → AV} {i : Nat} {ρ τ : Type} {r : ρ} {fj : τ → Option β} (j : J m' (jc i r fj s) enc) (h : m = m' := by conv => lhs; simp (maxSteps := 20000000) (disch := first | exact Zd | fail) only [ZN, simprocAttr, *]) : J m (jc i r fj s) enc := J.eq h j
theorem Jl  {β : Type} {m m' : Option AV} {enc : β → AV} {σ : Type} {body : (σ → Option β) → σ → Option β} {k : Nat} {s0 : σ} (j : J m' (cloop body k s0) enc) (h : m = m' := by conv => lhs; simp (maxSteps := 20000000) (disch := first | exact Zd | fail) only [ZN, simprocAttr, *]) : J m (cloop body k s0) enc := J.eq h j
theorem Jw {p : Prop} (h : p := by simp (maxSteps := 20000000) (disch := first | exact Zd | fail) only [ZG, simprocAttr, FN, *]) : p := h
theorem Zx {p : Prop} (h : p := by first | rfl | (simp only [LN, NN, NT]; done) | (simp (disch := first | exact Zd | fail) only [RR, simprocAttr, LN, NN, NT]; done) | (simp (disch := first | exact Zd | fail) only [RR, simprocAttr, LN, fm_app, NN, NT]; done) | (simp (maxSteps := 20000000) (disch := first | exact Zd | fail) only [ZZ, simprocAttr, kinV_at, kinVB_at, FN, *]; done) | (simp (maxSteps := 20000000) (disch := first | exact Zd | fail) only [ZZ, simprocAttr, kinV_at, kinVB_at, fm_app, FN, *]; done)) : p := h
theorem J.gi {β : Type} {m : Option AV} {s : Option β} {enc : β → AV} {c : Prop} {dd : Decidable c} {s1 : Option β} (j : J m (if c then s else s1) enc) : J m (if c then s else s1) enc := j
theorem J.gj {β : Type} {m : Option AV} {s : Option β} {enc : β → AV} {i : Nat} {ρ τ : Type} {r : ρ} {fj : τ → Option β} (j : J m (jn i r fj s) enc) : J m (jn i r fj s) enc := j
theorem J.gk {β : Type} {m : Option AV} {s : Option β} {enc : β → AV} {i : Nat} {ρ τ : Type} {r : ρ} {fj : τ → Option β} (j : J m (jc i r fj s) enc) : J m (jc i r fj s) enc := j
theorem J.gl {β : Type} {m : Option AV} {enc : β → AV} {σ : Type} {body : (σ → Option β) → σ → Option β} {k : Nat} {s0 : σ} (j : J m (cloop body k s0) enc) : J m (cloop body k s0) enc := j
theorem Wk {p : Prop} (h : p := by repeat' first | with_reducible exact J.none | with_reducible refine J.chk fun c => ?_ | (with_reducible refine J.atI fun r a b c d => ?_; try simp only [Int.toNat_natCast, LN, Nat.sub_zero, Nat.zero_mul, Nat.zero_add, Nat.add_zero, List.drop_zero, simprocAttr] at b c d) | (with_reducible refine J.atB fun r a b c d => ?_; try simp only [Int.toNat_natCast, LN, Nat.sub_zero, Nat.zero_mul, Nat.zero_add, Nat.add_zero, List.drop_zero, simprocAttr] at b c d) | (with_reducible refine J.atL fun r a b c d => ?_; try simp only [Int.toNat_natCast, LN, Nat.sub_zero, Nat.zero_mul, Nat.zero_add, Nat.add_zero, List.drop_zero, simprocAttr] at b c d) | (with_reducible refine J.atN c_T_Tensor_len fun r b c d => ?_; try simp only [Int.toNat_natCast, LN, Nat.sub_zero, Nat.zero_mul, Nat.zero_add, Nat.add_zero, List.drop_zero, simprocAttr] at b c d) | (with_reducible refine J.atS c_T_Tensor_len fun r a b c d => ?_; try simp only [Int.toNat_natCast, LN, Nat.sub_zero, Nat.zero_mul, Nat.zero_add, Nat.add_zero, List.drop_zero, simprocAttr] at b c d) | (with_reducible refine J.atN c_T_Setting_len fun r b c d => ?_; try simp only [Int.toNat_natCast, LN, Nat.sub_zero, Nat.zero_mul, Nat.zero_add, Nat.add_zero, List.drop_zero, simprocAttr] at b c d) | (with_reducible refine J.atS c_T_Setting_len fun r a b c d => ?_; try simp only [Int.toNat_natCast, LN, Nat.sub_zero, Nat.zero_mul, Nat.zero_add, Nat.add_zero, List.drop_zero, simprocAttr] at b c d) | (with_reducible refine J.atN c_T_Val_len fun r b c d => ?_; try simp only [Int.toNat_natCast, LN, Nat.sub_zero, Nat.zero_mul, Nat.zero_add, Nat.add_zero, List.drop_zero, simprocAttr] at b c d) | (with_reducible refine J.atS c_T_Val_len fun r a b c d => ?_; try simp only [Int.toNat_natCast, LN, Nat.sub_zero, Nat.zero_mul, Nat.zero_add, Nat.add_zero, List.drop_zero, simprocAttr] at b c d) | (with_reducible refine J.atN c_T_infer_ask_len fun r b c d => ?_; try simp only [Int.toNat_natCast, LN, Nat.sub_zero, Nat.zero_mul, Nat.zero_add, Nat.add_zero, List.drop_zero, simprocAttr] at b c d) | (with_reducible refine J.atS c_T_infer_ask_len fun r a b c d => ?_; try simp only [Int.toNat_natCast, LN, Nat.sub_zero, Nat.zero_mul, Nat.zero_add, Nat.add_zero, List.drop_zero, simprocAttr] at b c d) | (with_reducible refine J.atN c_T_conv_axis_len fun r b c d => ?_; try simp only [Int.toNat_natCast, LN, Nat.sub_zero, Nat.zero_mul, Nat.zero_add, Nat.add_zero, List.drop_zero, simprocAttr] at b c d) | (with_reducible refine J.atS c_T_conv_axis_len fun r a b c d => ?_; try simp only [Int.toNat_natCast, LN, Nat.sub_zero, Nat.zero_mul, Nat.zero_add, Nat.add_zero, List.drop_zero, simprocAttr] at b c d) | (with_reducible refine J.atN c_T_conv_work_len fun r b c d => ?_; try simp only [Int.toNat_natCast, LN, Nat.sub_zero, Nat.zero_mul, Nat.zero_add, Nat.add_zero, List.drop_zero, simprocAttr] at b c d) | (with_reducible refine J.atS c_T_conv_work_len fun r a b c d => ?_; try simp only [Int.toNat_natCast, LN, Nat.sub_zero, Nat.zero_mul, Nat.zero_add, Nat.add_zero, List.drop_zero, simprocAttr] at b c d) | (with_reducible refine J.atN c_T_soft_number_len fun r b c d => ?_; try simp only [Int.toNat_natCast, LN, Nat.sub_zero, Nat.zero_mul, Nat.zero_add, Nat.add_zero, List.drop_zero, simprocAttr] at b c d) | (with_reducible refine J.atS c_T_soft_number_len fun r a b c d => ?_; try simp only [Int.toNat_natCast, LN, Nat.sub_zero, Nat.zero_mul, Nat.zero_add, Nat.add_zero, List.drop_zero, simprocAttr] at b c d) | (with_reducible refine J.atM (c := c_T_Tensor) fun r a b c d => ?_; try simp only [Int.toNat_natCast, LN, Nat.sub_zero, Nat.zero_mul, Nat.zero_add, Nat.add_zero, List.drop_zero, simprocAttr] at b c d) | (with_reducible refine J.atM (c := c_T_Setting) fun r a b c d => ?_; try simp only [Int.toNat_natCast, LN, Nat.sub_zero, Nat.zero_mul, Nat.zero_add, Nat.add_zero, List.drop_zero, simprocAttr] at b c d) | (with_reducible refine J.atM (c := c_T_Val) fun r a b c d => ?_; try simp only [Int.toNat_natCast, LN, Nat.sub_zero, Nat.zero_mul, Nat.zero_add, Nat.add_zero, List.drop_zero, simprocAttr] at b c d) | (with_reducible refine J.atM (c := c_T_infer_ask) fun r a b c d => ?_; try simp only [Int.toNat_natCast, LN, Nat.sub_zero, Nat.zero_mul, Nat.zero_add, Nat.add_zero, List.drop_zero, simprocAttr] at b c d) | (with_reducible refine J.atM (c := c_T_conv_axis) fun r a b c d => ?_; try simp only [Int.toNat_natCast, LN, Nat.sub_zero, Nat.zero_mul, Nat.zero_add, Nat.add_zero, List.drop_zero, simprocAttr] at b c d) | (with_reducible refine J.atM (c := c_T_conv_work) fun r a b c d => ?_; try simp only [Int.toNat_natCast, LN, Nat.sub_zero, Nat.zero_mul, Nat.zero_add, Nat.add_zero, List.drop_zero, simprocAttr] at b c d) | (with_reducible refine J.atM (c := c_T_soft_number) fun r a b c d => ?_; try simp only [Int.toNat_natCast, LN, Nat.sub_zero, Nat.zero_mul, Nat.zero_add, Nat.add_zero, List.drop_zero, simprocAttr] at b c d) | with_reducible refine J.sat fun r a => ?_ | ((with_reducible refine J.bind fun x h => ?_); (first | with_reducible have e := H1.ap h | with_reducible have e := H2.ap h | with_reducible have e := H3.ap h | with_reducible have e := H4.ap h | with_reducible have e := H5.ap h | with_reducible have e := H6.ap h | with_reducible have e := H7.ap h | with_reducible have e := H8.ap h | with_reducible have e := H9.ap h | with_reducible have e := H10.ap h); try simp only [NN, NT, LN, simprocAttr, DT] at e) | (with_reducible refine J.some ?_; exact Jw) | (with_reducible refine J.gi ?_; refine Jg ?_; first | with_reducible refine J.iteLt (fun h k => ?_) (fun h k => ?_) | with_reducible refine J.iteLe (fun h k => ?_) (fun h k => ?_) | with_reducible refine J.iteEq (fun h k l => ?_) (fun h => ?_) | with_reducible refine J.iteB (fun h => ?_) (fun h => ?_) | with_reducible refine J.iteD (fun h => ?_) (fun h => ?_)) | (first | with_reducible refine J.hd (W1.eq_1 ..) ?_ | with_reducible refine J.hd (W2.eq_1 ..) ?_ | with_reducible refine J.hd (W3.eq_1 ..) ?_) | (with_reducible refine J.gj ?_; first | (first | (refine J.joinT j1 rfl (by intro; conv => lhs; simp (disch := first | exact Zd | fail) only [j1, ZN, simprocAttr]) (by intro; conv => lhs; simp (disch := first | exact Zd | fail) only [j1, ZN, simprocAttr]) (fun t => J.hd (k1.eq_1 ..) ?_) (fun a1 => ?_); all_goals try simp only [Prod.forall, unit_all] at a1) | (refine J.joinT j2 rfl (by intro; conv => lhs; simp (disch := first | exact Zd | fail) only [j2, ZN, simprocAttr]) (by intro; conv => lhs; simp (disch := first | exact Zd | fail) only [j2, ZN, simprocAttr]) (fun t => J.hd (k2.eq_1 ..) ?_) (fun a2 => ?_); all_goals try simp only [Prod.forall, unit_all] at a2) | (refine J.joinT j3 rfl (by intro; conv => lhs; simp (disch := first | exact Zd | fail) only [j3, ZN, simprocAttr]) (by intro; conv => lhs; simp (disch := first | exact Zd | fail) only [j3, ZN, simprocAttr]) (fun t => J.hd (k3.eq_1 ..) ?_) (fun a3 => ?_); all_goals try simp only [Prod.forall, unit_all] at a3) | (refine J.joinT j4 rfl (by intro; conv => lhs; simp (disch := first | exact Zd | fail) only [j4, ZN, simprocAttr]) (by intro; conv => lhs; simp (disch := first | exact Zd | fail) only [j4, ZN, simprocAttr]) (fun t => J.hd (k4.eq_1 ..) ?_) (fun a4 => ?_); all_goals try simp only [Prod.forall, unit_all] at a4) | (refine J.joinT j5 rfl (by intro; conv => lhs; simp (disch := first | exact Zd | fail) only [j5, ZN, simprocAttr]) (by intro; conv => lhs; simp (disch := first | exact Zd | fail) only [j5, ZN, simprocAttr]) (fun t => J.hd (k5.eq_1 ..) ?_) (fun a5 => ?_); all_goals try simp only [Prod.forall, unit_all] at a5) | refine J.sqj ?_ | refine J.rqj ?_) | (refine Jn ?_; first | (refine J.joinT j1 rfl (by intro; conv => lhs; simp (disch := first | exact Zd | fail) only [j1, ZN, simprocAttr]) (by intro; conv => lhs; simp (disch := first | exact Zd | fail) only [j1, ZN, simprocAttr]) (fun t => J.hd (k1.eq_1 ..) ?_) (fun a1 => ?_); all_goals try simp only [Prod.forall, unit_all] at a1) | (refine J.joinT j2 rfl (by intro; conv => lhs; simp (disch := first | exact Zd | fail) only [j2, ZN, simprocAttr]) (by intro; conv => lhs; simp (disch := first | exact Zd | fail) only [j2, ZN, simprocAttr]) (fun t => J.hd (k2.eq_1 ..) ?_) (fun a2 => ?_); all_goals try simp only [Prod.forall, unit_all] at a2) | (refine J.joinT j3 rfl (by intro; conv => lhs; simp (disch := first | exact Zd | fail) only [j3, ZN, simprocAttr]) (by intro; conv => lhs; simp (disch := first | exact Zd | fail) only [j3, ZN, simprocAttr]) (fun t => J.hd (k3.eq_1 ..) ?_) (fun a3 => ?_); all_goals try simp only [Prod.forall, unit_all] at a3) | (refine J.joinT j4 rfl (by intro; conv => lhs; simp (disch := first | exact Zd | fail) only [j4, ZN, simprocAttr]) (by intro; conv => lhs; simp (disch := first | exact Zd | fail) only [j4, ZN, simprocAttr]) (fun t => J.hd (k4.eq_1 ..) ?_) (fun a4 => ?_); all_goals try simp only [Prod.forall, unit_all] at a4) | (refine J.joinT j5 rfl (by intro; conv => lhs; simp (disch := first | exact Zd | fail) only [j5, ZN, simprocAttr]) (by intro; conv => lhs; simp (disch := first | exact Zd | fail) only [j5, ZN, simprocAttr]) (fun t => J.hd (k5.eq_1 ..) ?_) (fun a5 => ?_); all_goals try simp only [Prod.forall, unit_all] at a5) | refine J.sqj ?_ | refine J.rqj ?_)) | (with_reducible refine J.gk ?_; first | (first | (refine J.callT q1 (by intro; conv => lhs; simp (disch := first | exact Zd | fail) only [q1, ZN, simprocAttr]) (by intro; conv => lhs; simp (disch := first | exact Zd | fail) only [q1, ZN, simprocAttr]) (fun t => J.hd (c1.eq_1 ..) ?_) (fun a1 b1 => ?_); all_goals try simp only [Prod.forall, unit_all] at a1 b1) | (refine J.callT q2 (by intro; conv => lhs; simp (disch := first | exact Zd | fail) only [q2, ZN, simprocAttr]) (by intro; conv => lhs; simp (disch := first | exact Zd | fail) only [q2, ZN, simprocAttr]) (fun t => J.hd (c2.eq_1 ..) ?_) (fun a2 b2 => ?_); all_goals try simp only [Prod.forall, unit_all] at a2 b2) | (refine J.callT q3 (by intro; conv => lhs; simp (disch := first | exact Zd | fail) only [q3, ZN, simprocAttr]) (by intro; conv => lhs; simp (disch := first | exact Zd | fail) only [q3, ZN, simprocAttr]) (fun t => J.hd (c3.eq_1 ..) ?_) (fun a3 b3 => ?_); all_goals try simp only [Prod.forall, unit_all] at a3 b3) | (refine J.callT q4 (by intro; conv => lhs; simp (disch := first | exact Zd | fail) only [q4, ZN, simprocAttr]) (by intro; conv => lhs; simp (disch := first | exact Zd | fail) only [q4, ZN, simprocAttr]) (fun t => J.hd (c4.eq_1 ..) ?_) (fun a4 b4 => ?_); all_goals try simp only [Prod.forall, unit_all] at a4 b4) | (refine J.callT q5 (by intro; conv => lhs; simp (disch := first | exact Zd | fail) only [q5, ZN, simprocAttr]) (by intro; conv => lhs; simp (disch := first | exact Zd | fail) only [q5, ZN, simprocAttr]) (fun t => J.hd (c5.eq_1 ..) ?_) (fun a5 b5 => ?_); all_goals try simp only [Prod.forall, unit_all] at a5 b5) | refine J.sqc ?_ | refine J.rqc ?_) | (refine Jk ?_; first | (refine J.callT q1 (by intro; conv => lhs; simp (disch := first | exact Zd | fail) only [q1, ZN, simprocAttr]) (by intro; conv => lhs; simp (disch := first | exact Zd | fail) only [q1, ZN, simprocAttr]) (fun t => J.hd (c1.eq_1 ..) ?_) (fun a1 b1 => ?_); all_goals try simp only [Prod.forall, unit_all] at a1 b1) | (refine J.callT q2 (by intro; conv => lhs; simp (disch := first | exact Zd | fail) only [q2, ZN, simprocAttr]) (by intro; conv => lhs; simp (disch := first | exact Zd | fail) only [q2, ZN, simprocAttr]) (fun t => J.hd (c2.eq_1 ..) ?_) (fun a2 b2 => ?_); all_goals try simp only [Prod.forall, unit_all] at a2 b2) | (refine J.callT q3 (by intro; conv => lhs; simp (disch := first | exact Zd | fail) only [q3, ZN, simprocAttr]) (by intro; conv => lhs; simp (disch := first | exact Zd | fail) only [q3, ZN, simprocAttr]) (fun t => J.hd (c3.eq_1 ..) ?_) (fun a3 b3 => ?_); all_goals try simp only [Prod.forall, unit_all] at a3 b3) | (refine J.callT q4 (by intro; conv => lhs; simp (disch := first | exact Zd | fail) only [q4, ZN, simprocAttr]) (by intro; conv => lhs; simp (disch := first | exact Zd | fail) only [q4, ZN, simprocAttr]) (fun t => J.hd (c4.eq_1 ..) ?_) (fun a4 b4 => ?_); all_goals try simp only [Prod.forall, unit_all] at a4 b4) | (refine J.callT q5 (by intro; conv => lhs; simp (disch := first | exact Zd | fail) only [q5, ZN, simprocAttr]) (by intro; conv => lhs; simp (disch := first | exact Zd | fail) only [q5, ZN, simprocAttr]) (fun t => J.hd (c5.eq_1 ..) ?_) (fun a5 b5 => ?_); all_goals try simp only [Prod.forall, unit_all] at a5 b5) | refine J.sqc ?_ | refine J.rqc ?_)) | refine J.eq go_b45 ?_ | (with_reducible refine J.gl ?_; first | (first | refine J.loopT m1 rfl (by intro; conv => lhs; simp (disch := first | exact Zd | fail) only [m1, ZN, simprocAttr]) (by intro; conv => lhs; simp (disch := first | exact Zd | fail) only [m1, ZN, simprocAttr]) Zx Zx (fun next k n s => J.hd (L1.eq_1 ..) ?_) | refine J.loopT m2 rfl (by intro; conv => lhs; simp (disch := first | exact Zd | fail) only [m2, ZN, simprocAttr]) (by intro; conv => lhs; simp (disch := first | exact Zd | fail) only [m2, ZN, simprocAttr]) Zx Zx (fun next k n s => J.hd (L2.eq_1 ..) ?_) | refine J.loopT m3 rfl (by intro; conv => lhs; simp (disch := first | exact Zd | fail) only [m3, ZN, simprocAttr]) (by intro; conv => lhs; simp (disch := first | exact Zd | fail) only [m3, ZN, simprocAttr]) Zx Zx (fun next k n s => J.hd (L3.eq_1 ..) ?_) | refine J.sql ?_ | refine J.rql ?_) | (refine Jl ?_; first | refine J.loopT m1 rfl (by intro; conv => lhs; simp (disch := first | exact Zd | fail) only [m1, ZN, simprocAttr]) (by intro; conv => lhs; simp (disch := first | exact Zd | fail) only [m1, ZN, simprocAttr]) Zx Zx (fun next k n s => J.hd (L1.eq_1 ..) ?_) | refine J.loopT m2 rfl (by intro; conv => lhs; simp (disch := first | exact Zd | fail) only [m2, ZN, simprocAttr]) (by intro; conv => lhs; simp (disch := first | exact Zd | fail) only [m2, ZN, simprocAttr]) Zx Zx (fun next k n s => J.hd (L2.eq_1 ..) ?_) | refine J.loopT m3 rfl (by intro; conv => lhs; simp (disch := first | exact Zd | fail) only [m3, ZN, simprocAttr]) (by intro; conv => lhs; simp (disch := first | exact Zd | fail) only [m3, ZN, simprocAttr]) Zx Zx (fun next k n s => J.hd (L3.eq_1 ..) ?_) | refine J.sql ?_ | refine J.rql ?_)) | (refine Jg ?_; first | ((with_reducible apply a1) <;> first | exact () | exact Zx) | ((with_reducible apply a2) <;> first | exact () | exact Zx) | ((with_reducible apply a3) <;> first | exact () | exact Zx) | ((with_reducible apply a4) <;> first | exact () | exact Zx) | ((with_reducible apply a5) <;> first | exact () | exact Zx) | ((with_reducible apply b1) <;> first | exact () | exact Zx) | ((with_reducible apply b2) <;> first | exact () | exact Zx) | ((with_reducible apply b3) <;> first | exact () | exact Zx) | ((with_reducible apply b4) <;> first | exact () | exact Zx) | ((with_reducible apply b5) <;> first | exact () | exact Zx) | refine J.nextT (by assumption) Zx Zx)) : p := h
/-! 34: lattice/conv.Has -/
open Aw (d34)
def d34_at := by have h := tabL Aw.d34.eq_1; simp only [AllAt, Nat.zero_add, Nat.reduceAdd] at h; exact h
theorem i34 : finfo Tryz.prog 34 d34 = some ⟨bodyOf Tryz.f34, [.tmp 2], [4]⟩ := finfo_at Tryz.func34 rfl (by kernel_rfl) (by kernel_rfl)
def e34 : Bool → AV := fun r => .v (.bool r)
set_option maxHeartbeats 20000000 in
theorem w34 (cp : CallP) (fu : Nat) (x1 : Int)  : J (go Tryz.prog noC cp noI 0 [] d34 fu (fin Tryz.prog [.tmp 2] [4]) (bodyOf Tryz.f34) (initE 0 [.v (.int .i64 x1)]) [] []) (conv_Has fu x1) e34 := by
 unfold conv_Has e34
 conv => arg 1; simp only [bodyOf, Tryz.f34]
 have z0 := d34_at
 exact Wk
theorem ok34 (fu : Nat) (x1 : Int) (r) (h : conv_Has fu x1 = some r) : PureOK Tryz.prog 34 [.v (.int .i64 x1)] (e34 r) := pureT mixed [] (ids := []) rfl (by decide) i34 (C := noC) (ci := fun cp => noI) (fun cp ok => noI_ok) (fun cp H => w34 cp fu x1 ) h
/-! 80: lattice/tens.Width -/
open Aw (d80)
def d80_at := by have h := tabL Aw.d80.eq_1; simp only [AllAt, Nat.zero_add, Nat.reduceAdd] at h; exact h
theorem i80 : finfo Tryz.prog 80 d80 = some ⟨bodyOf Tryz.f80, [.tmp 2], [3]⟩ := finfo_at Tryz.func80 rfl (by kernel_rfl) (by kernel_rfl)
def e80 : Int → AV := fun r => .v (.int .i64 r)
set_option maxHeartbeats 20000000 in
theorem w80 (cp : CallP) (fu : Nat) (x1 : Int)  : J (go Tryz.prog noC cp noI 0 [] d80 fu (fin Tryz.prog [.tmp 2] [3]) (bodyOf Tryz.f80) (initE 0 [.v (.int .i64 x1)]) [] []) (tens_Width fu x1) e80 := by
 unfold tens_Width e80
 conv => arg 1; simp only [bodyOf, Tryz.f80]
 have z0 := d80_at
 exact Wk
theorem ok80 (fu : Nat) (x1 : Int) (r) (h : tens_Width fu x1 = some r) : PureOK Tryz.prog 80 [.v (.int .i64 x1)] (e80 r) := pureT mixed [] (ids := []) rfl (by decide) i80 (C := noC) (ci := fun cp => noI) (fun cp ok => noI_ok) (fun cp H => w80 cp fu x1 ) h
/-! 63: lattice/tens.known -/
open Aw (d63)
def d63_at := by have h := tabL Aw.d63.eq_1; simp only [AllAt, Nat.zero_add, Nat.reduceAdd] at h; exact h
theorem i63 : finfo Tryz.prog 63 d63 = some ⟨bodyOf Tryz.f63, [.tmp 2], [4]⟩ := finfo_at Tryz.func63 rfl (by kernel_rfl) (by kernel_rfl)
def e63 : Bool → AV := fun r => .v (.bool r)
structure K80 (fu : Nat) (cp : CallP) : Prop where
 ap : ∀ {a0 : Int} {r}, tens_Width fu a0 = some r → cp 80 [.v (.int .i64 a0)] = some (.v (.int .i64 r))
noncomputable def C80 (fu : Nat) : Cm Tryz.prog Int Int := ⟨80, fun t => [.v (.int .i64 t)], fun t => tens_Width fu t, e80, fun t b h => ok80 fu t  b h, Zi⟩
theorem u80 {fu : Nat} {cp : CallP} (H : Hit cp (C80 fu).ct) : K80 fu cp := ⟨fun {a0 r} h => (C80 fu).at H a0 r h⟩
set_option maxHeartbeats 20000000 in
theorem w63 (cp : CallP) (fu : Nat) (x1 : Int) (H1 : K80 fu cp) : J (go Tryz.prog noC cp noI 0 [] d63 fu (fin Tryz.prog [.tmp 2] [4]) (bodyOf Tryz.f63) (initE 0 [.v (.int .i64 x1)]) [] []) (tens_known fu x1) e63 := by
 unfold tens_known e63
 conv => arg 1; simp only [bodyOf, Tryz.f63]
 have z0 := d63_at
 exact Wk
theorem ok63 (fu : Nat) (x1 : Int) (r) (h : tens_known fu x1 = some r) : PureOK Tryz.prog 63 [.v (.int .i64 x1)] (e63 r) := pureT mixed [(C80 fu).ct] (ids := [80]) rfl (by decide) i63 (C := noC) (ci := fun cp => noI) (fun cp ok => noI_ok) (fun cp H => w63 cp fu x1 (u80 H.1)) h
/-! 77: slices.IndexFunc[[]int,int] -/
open Aw (d77)
def d77_at := by have h := tabL Aw.d77.eq_1; simp only [AllAt, Nat.zero_add, Nat.reduceAdd] at h; exact h
theorem i77 : finfo Tryz.prog 77 d77 = some ⟨bodyOf Tryz.f77, [.tmp 4], [3]⟩ := finfo_at Tryz.func77 rfl (by kernel_rfl) (by kernel_rfl)
def e77 : Int → AV := fun r => .v (.int .i64 r)
set_option maxHeartbeats 20000000 in
theorem w77 (cp : CallP) (fu : Nat) (x1 : List Int) (p1 : Int → Option Bool) (fv_p1 : FuncId) (ca_p1 : List AV) (cap_p1 : Capt ca_p1) (hp_p1 : ∀ (y0 : Int) r, p1 y0 = some r → cp fv_p1 ((.v (.int .i64 y0)) :: ca_p1) = some (.v (.bool r))) : J (go Tryz.prog noC cp noI 0 [] d77 fu (fin Tryz.prog [.tmp 4] [3]) (bodyOf Tryz.f77) (initE 0 [.arr x1.length (lm (ik .i64) x1), .fn fv_p1 [] ca_p1]) [] []) (slices_IndexFunc_int fu x1 p1) e77 := by
 unfold slices_IndexFunc_int e77
 have c4_p1 := fun g => (cap_p1.1 g).1; have c3_p1 := fun g => (cap_p1.1 g).2.1; have b4_p1 := fun g => (cap_p1.1 g).2.2.1; have b3_p1 := fun g => (cap_p1.1 g).2.2.2; have nm_p1 := cap_p1.2
 conv => arg 1; simp (disch := first | exact Zd | fail) only [bodyOf, Tryz.f77, ZZ, d77_at, simprocAttr, c4_p1, c3_p1, b4_p1, b3_p1, nm_p1]
 refine J.eq go_seq ?_
 conv => arg 1; simp (disch := first | exact Zd | fail) only [ZZ, d77_at, simprocAttr, c4_p1, c3_p1, b4_p1, b3_p1, nm_p1]
 unfold slices_IndexFunc_int.W1
 refine J.loop (fun (s : Int) => ([(0, .arr x1.length (lm (ik .i64) x1)), (1, .fn fv_p1 [] ca_p1), (7, .v (.int .i64 (x1.length : Int))), (8, .v (.int .i64 s))], [])) (fun next s => slices_IndexFunc_int.L1 fu p1 x1 next s) (s0 := 0) ?_ ?_ ?_
 ·exact Ze
 ·exact Zh
 rintro nx1 k1 hn1 x4
 show J _ (slices_IndexFunc_int.L1 fu p1 x1 nx1 x4) _
 unfold slices_IndexFunc_int.L1
 conv => arg 1; simp (disch := first | exact Zd | fail) only [ZZ, d77_at, simprocAttr, c4_p1, c3_p1, b4_p1, b3_p1, nm_p1]
 refine J.eq go_seq ?_
 conv => arg 1; simp (disch := first | exact Zd | fail) only [ZZ, d77_at, simprocAttr, c4_p1, c3_p1, b4_p1, b3_p1, nm_p1]
 refine J.ite (fun h1 => ?_) (fun h1 => ?_)
 ·have h1' := decide_eq_true h1
  have h1'' : decide ((x1.length : Int) ≤ x4) = false := decide_eq_false (by omega)
  conv => arg 1; simp (disch := first | exact Zd | fail) only [ZZ, d77_at, simprocAttr, c4_p1, c3_p1, b4_p1, b3_p1, nm_p1, h1'', h1']
  refine J.eq ret_seq ?_
  refine J.eq go_seq ?_
  refine J.at fun x7 h2 h3 h4 => ?_
  refine J.bind fun x8 h5 => ?_
  have e_h5 := hp_p1 _ _ h5
  try simp only [NN, NT, LN, simprocAttr, DT] at e_h5
  conv => arg 1; simp (disch := first | exact Zd | fail) only [ZZ, d77_at, simprocAttr, c4_p1, c3_p1, b4_p1, b3_p1, nm_p1, h1'', h1', lm_ik h4, e_h5]
  refine J.ite (fun h6 => ?_) (fun h6 => ?_)
  ·have h6' : x8 = true := h6
   refine J.some ?_
   simp (maxSteps := 20000000) (disch := first | exact Zd | fail) only [ZZ, d77_at, simprocAttr, c4_p1, c3_p1, b4_p1, b3_p1, nm_p1, h1'', h1', lm_ik h4, e_h5, h6', FN]
  ·have h6' : x8 = false := Bool.eq_false_iff.2 h6
   conv => arg 1; simp (disch := first | exact Zd | fail) only [ZZ, d77_at, simprocAttr, c4_p1, c3_p1, b4_p1, b3_p1, nm_p1, h1'', h1', lm_ik h4, e_h5, h6']
   refine J.eq ret_seq ?_
   conv => arg 1; simp (disch := first | exact Zd | fail) only [ZZ, d77_at, simprocAttr, c4_p1, c3_p1, b4_p1, b3_p1, nm_p1, h1'', h1', lm_ik h4, e_h5, h6']
   refine J.next (s := wk .i64 (x4 + 1)) hn1 ?_ ?_
   ·exact Ze
   ·exact Zh
 ·have h1' := decide_eq_false h1
  have h1'' : decide ((x1.length : Int) ≤ x4) = true := decide_eq_true (by omega)
  conv => arg 1; simp (disch := first | exact Zd | fail) only [ZZ, d77_at, simprocAttr, c4_p1, c3_p1, b4_p1, b3_p1, nm_p1, h1'', h1']
  refine J.eq ret_seq ?_
  refine J.some ?_
  simp (maxSteps := 20000000) (disch := first | exact Zd | fail) only [ZZ, d77_at, simprocAttr, c4_p1, c3_p1, b4_p1, b3_p1, nm_p1, h1'', h1', FN]
noncomputable def t77 (fu : Nat) (x1 : List Int) (p1 : Int → Option Bool) (fv_p1 : FuncId) (ca_p1 : List AV) : CallP := orE fv_p1 (mkC (fun (t : Int) => ((.v (.int .i64 t)) :: ca_p1 : List AV)) (fun t => p1 t) (fun r => .v (.bool r))) (noP)
theorem t77_ok (fu : Nat) (x1 : List Int) (p1 : Int → Option Bool) (fv_p1 : FuncId) (ca_p1 : List AV) (cap_p1 : Capt ca_p1) (hp_p1 : ∀ (y0 : Int) r, p1 y0 = some r → PureOK Tryz.prog fv_p1 ((.v (.int .i64 y0)) :: ca_p1) (.v (.bool r))) : CpOK Tryz.prog (t77 fu x1 p1 fv_p1 ca_p1) := orE_ok (noP_ok) (mkC_ok (fun t b h => hp_p1 t b h))
theorem ok77 (fu : Nat) (x1 : List Int) (p1 : Int → Option Bool) (fv_p1 : FuncId) (ca_p1 : List AV) (cap_p1 : Capt ca_p1) (hp_p1 : ∀ (y0 : Int) r, p1 y0 = some r → PureOK Tryz.prog fv_p1 ((.v (.int .i64 y0)) :: ca_p1) (.v (.bool r))) (r) (h : slices_IndexFunc_int fu x1 p1 = some r) : PureOK Tryz.prog 77 [.arr x1.length (lm (ik .i64) x1), .fn fv_p1 [] ca_p1] (e77 r) :=
  pure_J mixed (cp := t77 fu x1 p1 fv_p1 ca_p1) (t77_ok fu x1 p1 fv_p1 ca_p1 cap_p1 hp_p1) noI_ok i77 (w77 _ fu x1 p1 fv_p1 ca_p1 cap_p1 (fun y0 r h => orE_hit (mkC_at (a := y0) (by intro a b h; first | (exact rfl) | (simp only [INJ, IJ] at h; first | exact h | (simp_all [Prod.ext_iff]) )) h)) ) h
/-! 57: slices.ContainsFunc[[]int,int] -/
open Aw (d57)
def d57_at := by have h := tabL Aw.d57.eq_1; simp only [AllAt, Nat.zero_add, Nat.reduceAdd] at h; exact h
theorem i57 : finfo Tryz.prog 57 d57 = some ⟨bodyOf Tryz.f57, [.tmp 4], [4]⟩ := finfo_at Tryz.func57 rfl (by kernel_rfl) (by kernel_rfl)
def e57 : Bool → AV := fun r => .v (.bool r)
set_option maxHeartbeats 20000000 in
theorem w57 (cp : CallP) (fu : Nat) (x1 : List Int) (p1 : Int → Option Bool) (fv_p1 : FuncId) (ca_p1 : List AV) (cap_p1 : Capt ca_p1) (hp_p1 : ∀ (y0 : Int) r, p1 y0 = some r → cp fv_p1 ((.v (.int .i64 y0)) :: ca_p1) = some (.v (.bool r))) (H77_0 : ∀ (a0 : List Int) r, slices_IndexFunc_int fu a0 p1 = some r → cp 77 [.arr a0.length (lm (ik .i64) a0), .fn fv_p1 [] ca_p1] = some (.v (.int .i64 r))) : J (go Tryz.prog noC cp noI 0 [] d57 fu (fin Tryz.prog [.tmp 4] [4]) (bodyOf Tryz.f57) (initE 0 [.arr x1.length (lm (ik .i64) x1), .fn fv_p1 [] ca_p1]) [] []) (slices_ContainsFunc_int fu x1 p1) e57 := by
 unfold slices_ContainsFunc_int e57
 have c4_p1 := fun g => (cap_p1.1 g).1; have c3_p1 := fun g => (cap_p1.1 g).2.1; have b4_p1 := fun g => (cap_p1.1 g).2.2.1; have b3_p1 := fun g => (cap_p1.1 g).2.2.2; have nm_p1 := cap_p1.2
 refine J.bind fun x2 h1 => ?_
 have e_h1 := H77_0 _ _ h1
 try simp only [NN, NT, LN, simprocAttr, DT] at e_h1
 refine J.some ?_
 simp (maxSteps := 20000000) (disch := first | exact Zd | fail) only [bodyOf, Tryz.f57, ZZ, d57_at, simprocAttr, c4_p1, c3_p1, b4_p1, b3_p1, nm_p1, e_h1, FN]
noncomputable def t57 (fu : Nat) (x1 : List Int) (p1 : Int → Option Bool) (fv_p1 : FuncId) (ca_p1 : List AV) : CallP := orE 77 (mkC (fun (t : List Int) => ([.arr t.length (lm (ik .i64) t), .fn fv_p1 [] ca_p1] : List AV)) (fun t => slices_IndexFunc_int fu t p1) e77) (orE fv_p1 (mkC (fun (t : Int) => ((.v (.int .i64 t)) :: ca_p1 : List AV)) (fun t => p1 t) (fun r => .v (.bool r))) (noP))
theorem t57_ok (fu : Nat) (x1 : List Int) (p1 : Int → Option Bool) (fv_p1 : FuncId) (ca_p1 : List AV) (cap_p1 : Capt ca_p1) (hp_p1 : ∀ (y0 : Int) r, p1 y0 = some r → PureOK Tryz.prog fv_p1 ((.v (.int .i64 y0)) :: ca_p1) (.v (.bool r))) : CpOK Tryz.prog (t57 fu x1 p1 fv_p1 ca_p1) := orE_ok (orE_ok (noP_ok) (mkC_ok (fun t b h => hp_p1 t b h))) (mkC_ok (fun t b h => ok77 fu t p1 fv_p1 ca_p1 cap_p1 hp_p1 b h))
theorem ok57 (fu : Nat) (x1 : List Int) (p1 : Int → Option Bool) (fv_p1 : FuncId) (ca_p1 : List AV) (cap_p1 : Capt ca_p1) (hp_p1 : ∀ (y0 : Int) r, p1 y0 = some r → PureOK Tryz.prog fv_p1 ((.v (.int .i64 y0)) :: ca_p1) (.v (.bool r))) (r) (h : slices_ContainsFunc_int fu x1 p1 = some r) : PureOK Tryz.prog 57 [.arr x1.length (lm (ik .i64) x1), .fn fv_p1 [] ca_p1] (e57 r) :=
  pure_J mixed (cp := t57 fu x1 p1 fv_p1 ca_p1) (t57_ok fu x1 p1 fv_p1 ca_p1 cap_p1 hp_p1) noI_ok i57 (w57 _ fu x1 p1 fv_p1 ca_p1 cap_p1 (fun y0 r h => orE_skip (fun hfv => mkC_none (by intro t h; simp at h)) (orE_hit (mkC_at (a := y0) (by intro a b h; first | (exact rfl) | (simp only [INJ, IJ] at h; first | exact h | (simp_all [Prod.ext_iff]) )) h))) (fun a0 r h => orE_hit (mkC_at (a := a0) (by intro a b h; first | (exact rfl) | (simp only [INJ, IJ] at h; first | exact h | (simp_all [Prod.ext_iff]) )) h))) h
/-! 58: lattice/shape.Size$1 -/
open Aw (d58)
def d58_at := by have h := tabL Aw.d58.eq_1; simp only [AllAt, Nat.zero_add, Nat.reduceAdd] at h; exact h
theorem i58 : finfo Tryz.prog 58 d58 = some ⟨bodyOf Tryz.f58, [.tmp 2], [4]⟩ := finfo_at Tryz.func58 rfl (by kernel_rfl) (by kernel_rfl)
def e58 : Bool → AV := fun r => .v (.bool r)
set_option maxHeartbeats 20000000 in
theorem w58 (cp : CallP) (fu : Nat) (x1 : Int)  : J (go Tryz.prog noC cp noI 0 [] d58 fu (fin Tryz.prog [.tmp 2] [4]) (bodyOf Tryz.f58) (initE 0 [.v (.int .i64 x1)]) [] []) (shape_Size_1 fu x1) e58 := by
 unfold shape_Size_1 e58
 conv => arg 1; simp only [bodyOf, Tryz.f58]
 have z0 := d58_at
 exact Wk
theorem ok58 (fu : Nat) (x1 : Int) (r) (h : shape_Size_1 fu x1 = some r) : PureOK Tryz.prog 58 [.v (.int .i64 x1)] (e58 r) := pureT mixed [] (ids := []) rfl (by decide) i58 (C := noC) (ci := fun cp => noI) (fun cp ok => noI_ok) (fun cp H => w58 cp fu x1 ) h
/-! 59: lattice/shape.Size$2 -/
open Aw (d59)
def d59_at := by have h := tabL Aw.d59.eq_1; simp only [AllAt, Nat.zero_add, Nat.reduceAdd] at h; exact h
theorem i59 : finfo Tryz.prog 59 d59 = some ⟨bodyOf Tryz.f59, [.tmp 2], [4]⟩ := finfo_at Tryz.func59 rfl (by kernel_rfl) (by kernel_rfl)
def e59 : Bool → AV := fun r => .v (.bool r)
set_option maxHeartbeats 20000000 in
theorem w59 (cp : CallP) (fu : Nat) (x1 : Int)  : J (go Tryz.prog noC cp noI 0 [] d59 fu (fin Tryz.prog [.tmp 2] [4]) (bodyOf Tryz.f59) (initE 0 [.v (.int .i64 x1)]) [] []) (shape_Size_2 fu x1) e59 := by
 unfold shape_Size_2 e59
 conv => arg 1; simp only [bodyOf, Tryz.f59]
 have z0 := d59_at
 exact Wk
theorem ok59 (fu : Nat) (x1 : Int) (r) (h : shape_Size_2 fu x1 = some r) : PureOK Tryz.prog 59 [.v (.int .i64 x1)] (e59 r) := pureT mixed [] (ids := []) rfl (by decide) i59 (C := noC) (ci := fun cp => noI) (fun cp ok => noI_ok) (fun cp H => w59 cp fu x1 ) h
/-! 78: slices.Index[[]int,int] -/
open Aw (d78)
def d78_at := by have h := tabL Aw.d78.eq_1; simp only [AllAt, Nat.zero_add, Nat.reduceAdd] at h; exact h
theorem i78 : finfo Tryz.prog 78 d78 = some ⟨bodyOf Tryz.f78, [.tmp 4], [3]⟩ := finfo_at Tryz.func78 rfl (by kernel_rfl) (by kernel_rfl)
def e78 : Int → AV := fun r => .v (.int .i64 r)
def slices_Index_int.m1 : LJ 1 4 Unit Int := ⟨fun r s e => [(0, er e 0), (1, er e 1), (7, er e 7), (8, .v (.int .i64 s))], fun r s h => []⟩
set_option maxHeartbeats 20000000 in
open slices_Index_int in
theorem w78 (cp : CallP) (fu : Nat) (x1 : List Int) (x2 : Int)  : J (go Tryz.prog noC cp noI 0 [] d78 fu (fin Tryz.prog [.tmp 4] [3]) (bodyOf Tryz.f78) (initE 0 [.arr x1.length (lm (ik .i64) x1), .v (.int .i64 x2)]) [] []) (slices_Index_int fu x1 x2) e78 := by
 unfold slices_Index_int e78
 conv => arg 1; simp only [bodyOf, Tryz.f78]
 have z0 := d78_at
 exact Wk
theorem ok78 (fu : Nat) (x1 : List Int) (x2 : Int) (r) (h : slices_Index_int fu x1 x2 = some r) : PureOK Tryz.prog 78 [.arr x1.length (lm (ik .i64) x1), .v (.int .i64 x2)] (e78 r) := pureT mixed [] (ids := []) rfl (by decide) i78 (C := noC) (ci := fun cp => noI) (fun cp ok => noI_ok) (fun cp H => w78 cp fu x1 x2 ) h
/-! 60: slices.Contains[[]int,int] -/
open Aw (d60)
def d60_at := by have h := tabL Aw.d60.eq_1; simp only [AllAt, Nat.zero_add, Nat.reduceAdd] at h; exact h
theorem i60 : finfo Tryz.prog 60 d60 = some ⟨bodyOf Tryz.f60, [.tmp 4], [4]⟩ := finfo_at Tryz.func60 rfl (by kernel_rfl) (by kernel_rfl)
def e60 : Bool → AV := fun r => .v (.bool r)
structure K78 (fu : Nat) (cp : CallP) : Prop where
 ap : ∀ {a0 : List Int} {a1 : Int} {r}, slices_Index_int fu a0 a1 = some r → cp 78 [.arr a0.length (lm (ik .i64) a0), .v (.int .i64 a1)] = some (.v (.int .i64 r))
noncomputable def C78 (fu : Nat) : Cm Tryz.prog ((List Int) × Int) Int := ⟨78, fun t => [.arr t.1.length (lm (ik .i64) t.1), .v (.int .i64 t.2)], fun t => slices_Index_int fu t.1 t.2, e78, fun t b h => ok78 fu t.1 t.2  b h, Zi⟩
theorem u78 {fu : Nat} {cp : CallP} (H : Hit cp (C78 fu).ct) : K78 fu cp := ⟨fun {a0 a1 r} h => (C78 fu).at H (a0, a1) r h⟩
set_option maxHeartbeats 20000000 in
theorem w60 (cp : CallP) (fu : Nat) (x1 : List Int) (x2 : Int) (H1 : K78 fu cp) : J (go Tryz.prog noC cp noI 0 [] d60 fu (fin Tryz.prog [.tmp 4] [4]) (bodyOf Tryz.f60) (initE 0 [.arr x1.length (lm (ik .i64) x1), .v (.int .i64 x2)]) [] []) (slices_Contains_int fu x1 x2) e60 := by
 unfold slices_Contains_int e60
 conv => arg 1; simp only [bodyOf, Tryz.f60]
 have z0 := d60_at
 exact Wk
theorem ok60 (fu : Nat) (x1 : List Int) (x2 : Int) (r) (h : slices_Contains_int fu x1 x2 = some r) : PureOK Tryz.prog 60 [.arr x1.length (lm (ik .i64) x1), .v (.int .i64 x2)] (e60 r) := pureT mixed [(C78 fu).ct] (ids := [78]) rfl (by decide) i60 (C := noC) (ci := fun cp => noI) (fun cp ok => noI_ok) (fun cp H => w60 cp fu x1 x2 (u78 H.1)) h
/-! 30: lattice/shape.Size -/
open Aw (d30)
def d30_at := by have h := tabL Aw.d30.eq_1; simp only [AllAt, Nat.zero_add, Nat.reduceAdd] at h; exact h
theorem i30 : finfo Tryz.prog 30 d30 = some ⟨bodyOf Tryz.f30, [.tmp 2, .tmp 3], [3, 32]⟩ := finfo_at Tryz.func30 rfl (by kernel_rfl) (by kernel_rfl)
def e30 : (Int × Int) → AV := fun r => .tuple [.v (.int .i64 r.1), .v (.int .i64 r.2)]
set_option maxHeartbeats 20000000 in
theorem w30 (cp : CallP) (fu : Nat) (x1 : List Int) (H57_0 : ∀ (a0 : List Int) r, slices_ContainsFunc_int fu a0 (fun y0 => shape_Size_1 fu y0) = some r → cp 57 [.arr a0.length (lm (ik .i64) a0), .fn 58 [] []] = some (.v (.bool r))) (H57_1 : ∀ (a0 : List Int) r, slices_ContainsFunc_int fu a0 (fun y0 => shape_Size_2 fu y0) = some r → cp 57 [.arr a0.length (lm (ik .i64) a0), .fn 59 [] []] = some (.v (.bool r))) (H60_0 : ∀ (a0 : List Int) (a1 : Int) r, slices_Contains_int fu a0 a1 = some r → cp 60 [.arr a0.length (lm (ik .i64) a0), .v (.int .i64 a1)] = some (.v (.bool r))) : J (go Tryz.prog noC cp noI 0 [] d30 fu (fin Tryz.prog [.tmp 2, .tmp 3] [3, 32]) (bodyOf Tryz.f30) (initE 0 [.arr x1.length (lm (ik .i64) x1)]) [] []) (shape_Size fu x1) e30 := by
 unfold shape_Size e30
 conv => arg 1; simp (disch := first | exact Zd | fail) only [bodyOf, Tryz.f30, ZZ, d30_at, simprocAttr]
 refine J.eq go_seq ?_
 refine J.bind fun x2 h1 => ?_
 have e_h1 := H57_0 _ _ h1
 try simp only [NN, NT, LN, simprocAttr, DT] at e_h1
 conv => arg 1; simp (disch := first | exact Zd | fail) only [ZZ, d30_at, simprocAttr, e_h1]
 refine J.ite (fun h2 => ?_) (fun h2 => ?_)
 ·have h2' : x2 = true := h2
  refine J.some ?_
  simp (maxSteps := 20000000) (disch := first | exact Zd | fail) only [ZZ, d30_at, simprocAttr, e_h1, h2', FN]
 ·have h2' : x2 = false := Bool.eq_false_iff.2 h2
  conv => arg 1; simp (disch := first | exact Zd | fail) only [ZZ, d30_at, simprocAttr, e_h1, h2']
  refine J.eq ret_seq ?_
  refine J.joinS (fun (t : Unit) => ([(0, .arr x1.length (lm (ik .i64) x1))], [])) (fun t => shape_Size.k1 fu x1) ?_ (fun hj1 => ?_)
  ·rintro ⟨⟩
   show J _ (shape_Size.k1 fu x1) _
   unfold shape_Size.k1
   refine J.eq go_seq ?_
   refine J.bind fun x3 h3 => ?_
   have e_h3 := H60_0 _ _ _ h3
   try simp only [NN, NT, LN, simprocAttr, DT] at e_h3
   conv => arg 1; simp (disch := first | exact Zd | fail) only [ZZ, d30_at, simprocAttr, e_h1, h2', e_h3]
   refine J.ite (fun h4 => ?_) (fun h4 => ?_)
   ·have h4' : x3 = true := h4
    refine J.some ?_
    simp (maxSteps := 20000000) (disch := first | exact Zd | fail) only [ZZ, d30_at, simprocAttr, e_h1, h2', e_h3, h4', FN]
   ·have h4' : x3 = false := Bool.eq_false_iff.2 h4
    conv => arg 1; simp (disch := first | exact Zd | fail) only [ZZ, d30_at, simprocAttr, e_h1, h2', e_h3, h4']
    refine J.eq ret_seq ?_
    conv => arg 1; simp (disch := first | exact Zd | fail) only [ZZ, d30_at, simprocAttr, e_h1, h2', e_h3, h4']
    refine J.eq go_seq ?_
    conv => arg 1; simp (disch := first | exact Zd | fail) only [ZZ, d30_at, simprocAttr, e_h1, h2', e_h3, h4']
    unfold shape_Size.W1
    refine J.loop (fun (s : Int × Int) => ([(4, .v (.int .i64 s.1)), (18, .arr x1.length (lm (ik .i64) x1)), (19, .v (.int .i64 (x1.length : Int))), (20, .v (.int .i64 s.2))], [])) (fun next s => shape_Size.L1 fu x1 (fun x5 x6 => next (x5, x6)) s.1 s.2) (s0 := (1, 0)) ?_ ?_ ?_
    ·exact Ze
    ·exact Zh
    rintro next k1 hn1 ⟨x5, x6⟩
    let nx1 : Int → Int → Option (Int × Int) := (fun x5 x6 => next (x5, x6))
    show J _ (shape_Size.L1 fu x1 nx1 x5 x6) _
    unfold shape_Size.L1
    conv => arg 1; simp (disch := first | exact Zd | fail) only [ZZ, d30_at, simprocAttr, e_h1, h2', e_h3, h4']
    refine J.eq go_seq ?_
    conv => arg 1; simp (disch := first | exact Zd | fail) only [ZZ, d30_at, simprocAttr, e_h1, h2', e_h3, h4']
    refine J.ite (fun h5 => ?_) (fun h5 => ?_)
    ·have h5' := decide_eq_true h5
     have h5'' : decide ((x1.length : Int) ≤ x6) = false := decide_eq_false (by omega)
     conv => arg 1; simp (disch := first | exact Zd | fail) only [ZZ, d30_at, simprocAttr, e_h1, h2', e_h3, h4', h5'', h5']
     refine J.eq ret_seq ?_
     refine J.eq go_seq ?_
     refine J.at fun x8 h6 h7 h8 => ?_
     conv => arg 1; simp (disch := first | exact Zd | fail) only [ZZ, d30_at, simprocAttr, e_h1, h2', e_h3, h4', h5'', h5', lm_ik h8]
     refine J.eq go_seq ?_
     refine J.chk fun h9 => ?_
     conv => arg 1; simp (disch := first | exact Zd | fail) only [ZZ, d30_at, simprocAttr, e_h1, h2', e_h3, h4', h5'', h5', lm_ik h8]
     refine J.ite (fun h10 => ?_) (fun h10 => ?_)
     ·have h10' := decide_eq_true h10
      have h10'' : decide (x8 ≤ (wk .i64 (Int.tdiv 4096 x5))) = false := decide_eq_false (by omega)
      refine J.some ?_
      simp (maxSteps := 20000000) (disch := first | exact Zd | fail) only [ZZ, d30_at, simprocAttr, e_h1, h2', e_h3, h4', h5'', h5', lm_ik h8, h10'', h10', FN]
     ·have h10' := decide_eq_false h10
      have h10'' : decide (x8 ≤ (wk .i64 (Int.tdiv 4096 x5))) = true := decide_eq_true (by omega)
      conv => arg 1; simp (disch := first | exact Zd | fail) only [ZZ, d30_at, simprocAttr, e_h1, h2', e_h3, h4', h5'', h5', lm_ik h8, h10'', h10']
      refine J.eq ret_seq ?_
      conv => arg 1; simp (disch := first | exact Zd | fail) only [ZZ, d30_at, simprocAttr, e_h1, h2', e_h3, h4', h5'', h5', lm_ik h8, h10'', h10']
      refine J.eq ret_seq ?_
      conv => arg 1; simp (disch := first | exact Zd | fail) only [ZZ, d30_at, simprocAttr, e_h1, h2', e_h3, h4', h5'', h5', lm_ik h8, h10'', h10']
      refine J.next (s := (wk .i64 (x5 * x8), wk .i64 (x6 + 1))) hn1 ?_ ?_
      ·exact Ze
      ·exact Zh
    ·have h5' := decide_eq_false h5
     have h5'' : decide ((x1.length : Int) ≤ x6) = true := decide_eq_true (by omega)
     conv => arg 1; simp (disch := first | exact Zd | fail) only [ZZ, d30_at, simprocAttr, e_h1, h2', e_h3, h4', h5'', h5']
     refine J.eq ret_seq ?_
     refine J.some ?_
     simp (maxSteps := 20000000) (disch := first | exact Zd | fail) only [ZZ, d30_at, simprocAttr, e_h1, h2', e_h3, h4', h5'', h5', FN]
  ·refine J.hd jn_at ?_
   refine J.eq go_seq ?_
   conv => arg 1; simp (disch := first | exact Zd | fail) only [ZZ, d30_at, simprocAttr, e_h1, h2']
   refine J.ite (fun h11 => ?_) (fun h11 => ?_)
   ·have h11' := decide_eq_true h11
    have h11'' : decide ((x1.length : Int) ≤ 8) = false := decide_eq_false (by omega)
    conv => arg 1; simp (disch := first | exact Zd | fail) only [ZZ, d30_at, simprocAttr, e_h1, h2', h11'', h11']
    refine J.eq ret_seq ?_
    refine J.some ?_
    simp (maxSteps := 20000000) (disch := first | exact Zd | fail) only [ZZ, d30_at, simprocAttr, e_h1, h2', h11'', h11', FN]
   ·have h11' := decide_eq_false h11
    have h11'' : decide ((x1.length : Int) ≤ 8) = true := decide_eq_true (by omega)
    refine J.bind fun x9 h12 => ?_
    have e_h12 := H57_1 _ _ h12
    try simp only [NN, NT, LN, simprocAttr, DT] at e_h12
    conv => arg 1; simp (disch := first | exact Zd | fail) only [ZZ, d30_at, simprocAttr, e_h1, h2', h11'', h11', e_h12]
    refine J.eq ret_seq ?_
    conv => arg 1; simp (disch := first | exact Zd | fail) only [ZZ, d30_at, simprocAttr, e_h1, h2', h11'', h11', e_h12]
    refine J.ite (fun h13 => ?_) (fun h13 => ?_)
    ·have h13' : x9 = true := h13
     refine J.some ?_
     simp (maxSteps := 20000000) (disch := first | exact Zd | fail) only [ZZ, d30_at, simprocAttr, e_h1, h2', h11'', h11', e_h12, h13', FN]
    ·have h13' : x9 = false := Bool.eq_false_iff.2 h13
     conv => arg 1; simp (disch := first | exact Zd | fail) only [ZZ, d30_at, simprocAttr, e_h1, h2', h11'', h11', e_h12, h13']
     refine J.jmp (t := ()) hj1 ?_ ?_
     ·exact Ze
     ·exact Zh
noncomputable def t30 (fu : Nat) : CallP := orE 57 (mkC (fun (t : List Int) => ([.arr t.length (lm (ik .i64) t), .fn 58 [] []] : List AV)) (fun t => slices_ContainsFunc_int fu t (fun y0 => shape_Size_1 fu y0)) e57) (orE 57 (mkC (fun (t : List Int) => ([.arr t.length (lm (ik .i64) t), .fn 59 [] []] : List AV)) (fun t => slices_ContainsFunc_int fu t (fun y0 => shape_Size_2 fu y0)) e57) (orE 60 (mkC (fun (t : (List Int) × Int) => ([.arr t.1.length (lm (ik .i64) t.1), .v (.int .i64 t.2)] : List AV)) (fun t => slices_Contains_int fu t.1 t.2) e60) (noP)))
theorem t30_ok (fu : Nat) : CpOK Tryz.prog (t30 fu ) := orE_ok (orE_ok (orE_ok (noP_ok) (mkC_ok (fun t b h => ok60 fu t.1 t.2  b h))) (mkC_ok (fun t b h => ok57 fu t (fun y0 => shape_Size_2 fu y0) 59 [] Capt.nil (fun y0 r h => ok59 fu y0  r h) b h))) (mkC_ok (fun t b h => ok57 fu t (fun y0 => shape_Size_1 fu y0) 58 [] Capt.nil (fun y0 r h => ok58 fu y0  r h) b h))
theorem ok30 (fu : Nat) (x1 : List Int) (r) (h : shape_Size fu x1 = some r) : PureOK Tryz.prog 30 [.arr x1.length (lm (ik .i64) x1)] (e30 r) :=
  pure_J mixed (cp := t30 fu ) (t30_ok fu  ) noI_ok i30 (w30 _ fu x1  (fun a0 r h => orE_hit (mkC_at (a := a0) (by intro a b h; first | (exact rfl) | (simp only [INJ, IJ] at h; first | exact h | (simp_all [Prod.ext_iff]) )) h)) (fun a0 r h => orE_next (mkC_none (by intro t h; simp at h)) (orE_hit (mkC_at (a := a0) (by intro a b h; first | (exact rfl) | (simp only [INJ, IJ] at h; first | exact h | (simp_all [Prod.ext_iff]) )) h))) (fun a0 a1 r h => orE_miss (by decide) (orE_miss (by decide) (orE_hit (mkC_at (a := (a0, a1)) (by intro a b h; first | (exact rfl) | (simp only [INJ, IJ] at h; first | exact h | (simp_all [Prod.ext_iff]) )) h))))) h
/-! 35: lattice/tens.Check -/
open Aw (d35)
def d35_at := by have h := tabL Aw.d35.eq_1; simp only [AllAt, Nat.zero_add, Nat.reduceAdd] at h; exact h
theorem i35 : finfo Tryz.prog 35 d35 = some ⟨bodyOf Tryz.f35, [.tmp 2], [32]⟩ := finfo_at Tryz.func35 rfl (by kernel_rfl) (by kernel_rfl)
def e35 : Int → AV := fun r => .v (.int .i64 r)
structure K63 (fu : Nat) (cp : CallP) : Prop where
 ap : ∀ {a0 : Int} {r}, tens_known fu a0 = some r → cp 63 [.v (.int .i64 a0)] = some (.v (.bool r))
noncomputable def C63 (fu : Nat) : Cm Tryz.prog Int Bool := ⟨63, fun t => [.v (.int .i64 t)], fun t => tens_known fu t, e63, fun t b h => ok63 fu t  b h, Zi⟩
theorem u63 {fu : Nat} {cp : CallP} (H : Hit cp (C63 fu).ct) : K63 fu cp := ⟨fun {a0 r} h => (C63 fu).at H a0 r h⟩
structure K30 (fu : Nat) (cp : CallP) : Prop where
 ap : ∀ {a0 : List Int} {r}, shape_Size fu a0 = some r → cp 30 [.arr a0.length (lm (ik .i64) a0)] = some (.tuple [.v (.int .i64 r.1), .v (.int .i64 r.2)])
noncomputable def C30 (fu : Nat) : Cm Tryz.prog (List Int) (Int × Int) := ⟨30, fun t => [.arr t.length (lm (ik .i64) t)], fun t => shape_Size fu t, e30, fun t b h => ok30 fu t  b h, Zi⟩
theorem u30 {fu : Nat} {cp : CallP} (H : Hit cp (C30 fu).ct) : K30 fu cp := ⟨fun {a0 r} h => (C30 fu).at H a0 r h⟩
def tens_Check.j1 : LJ 1 24 Unit Int := ⟨fun r t e => [(1, er e 1), (3, er e 3), (5, .v (.int .i64 t))], fun r t h => [((0, 1, 0), hr h (0, 1, 0))]⟩
set_option maxHeartbeats 20000000 in
open tens_Check in
theorem w35 (cp : CallP) (fu : Nat) (x1 : T_Tensor) (H1 : K63 fu cp) (H2 : K30 fu cp) : J (go Tryz.prog noC cp noI 0 [] d35 fu (fin Tryz.prog [.tmp 2] [32]) (bodyOf Tryz.f35) (initE 0 [.agg (c_T_Tensor x1)]) [] []) (tens_Check fu x1) e35 := by
 unfold tens_Check e35
 conv => arg 1; simp only [bodyOf, Tryz.f35]
 have z0 := d35_at
 exact Wk
theorem ok35 (fu : Nat) (x1 : T_Tensor) (r) (h : tens_Check fu x1 = some r) : PureOK Tryz.prog 35 [.agg (c_T_Tensor x1)] (e35 r) := pureT mixed [(C63 fu).ct, (C30 fu).ct] (ids := [63, 30]) rfl (by decide) i35 (C := noC) (ci := fun cp => noI) (fun cp ok => noI_ok) (fun cp H => w35 cp fu x1 (u63 H.1) (u30 H.2.1)) h
/-! 81: lattice/tens.own[int] -/
open Aw (d81)
def d81_at := by have h := tabL Aw.d81.eq_1; simp only [AllAt, Nat.zero_add, Nat.reduceAdd] at h; exact h
theorem i81 : finfo Tryz.prog 81 d81 = some ⟨bodyOf Tryz.f81, [.tmp 2], [22]⟩ := finfo_at Tryz.func81 rfl (by kernel_rfl) (by kernel_rfl)
def e81 : (List Int) → AV := fun r => .fresh 1 r.length (lm (ik .i64) r)
set_option maxHeartbeats 20000000 in
theorem w81 (cp : CallP) (fu : Nat) (x1 : List Int)  : J (go Tryz.prog noC cp noI 0 [] d81 fu (fin Tryz.prog [.tmp 2] [22]) (bodyOf Tryz.f81) (initE 0 [.arr x1.length (lm (ik .i64) x1)]) [] []) (tens_own_int fu x1) e81 := by
 unfold tens_own_int e81
 conv => arg 1; simp only [bodyOf, Tryz.f81]
 have z0 := d81_at
 exact Wk
theorem ok81 (fu : Nat) (x1 : List Int) (r) (h : tens_own_int fu x1 = some r) : PureOK Tryz.prog 81 [.arr x1.length (lm (ik .i64) x1)] (e81 r) := pureT mixed [] (ids := []) rfl (by decide) i81 (C := noC) (ci := fun cp => noI) (fun cp ok => noI_ok) (fun cp H => w81 cp fu x1 ) h
/-! 82: lattice/tens.own[uint32] -/
open Aw (d82)
def d82_at := by have h := tabL Aw.d82.eq_1; simp only [AllAt, Nat.zero_add, Nat.reduceAdd] at h; exact h
theorem i82 : finfo Tryz.prog 82 d82 = some ⟨bodyOf Tryz.f82, [.tmp 2], [24]⟩ := finfo_at Tryz.func82 rfl (by kernel_rfl) (by kernel_rfl)
def e82 : (List Int) → AV := fun r => .fresh 1 r.length (lm (ik .u32) r)
set_option maxHeartbeats 20000000 in
theorem w82 (cp : CallP) (fu : Nat) (x1 : List Int)  : J (go Tryz.prog noC cp noI 0 [] d82 fu (fin Tryz.prog [.tmp 2] [24]) (bodyOf Tryz.f82) (initE 0 [.arr x1.length (lm (ik .u32) x1)]) [] []) (tens_own_uint32 fu x1) e82 := by
 unfold tens_own_uint32 e82
 conv => arg 1; simp only [bodyOf, Tryz.f82]
 have z0 := d82_at
 exact Wk
theorem ok82 (fu : Nat) (x1 : List Int) (r) (h : tens_own_uint32 fu x1 = some r) : PureOK Tryz.prog 82 [.arr x1.length (lm (ik .u32) x1)] (e82 r) := pureT mixed [] (ids := []) rfl (by decide) i82 (C := noC) (ci := fun cp => noI) (fun cp ok => noI_ok) (fun cp H => w82 cp fu x1 ) h
/-! 83: lattice/tens.own[int64] -/
open Aw (d83)
def d83_at := by have h := tabL Aw.d83.eq_1; simp only [AllAt, Nat.zero_add, Nat.reduceAdd] at h; exact h
theorem i83 : finfo Tryz.prog 83 d83 = some ⟨bodyOf Tryz.f83, [.tmp 2], [25]⟩ := finfo_at Tryz.func83 rfl (by kernel_rfl) (by kernel_rfl)
def e83 : (List Int) → AV := fun r => .fresh 1 r.length (lm (ik .i64) r)
set_option maxHeartbeats 20000000 in
theorem w83 (cp : CallP) (fu : Nat) (x1 : List Int)  : J (go Tryz.prog noC cp noI 0 [] d83 fu (fin Tryz.prog [.tmp 2] [25]) (bodyOf Tryz.f83) (initE 0 [.arr x1.length (lm (ik .i64) x1)]) [] []) (tens_own_int64 fu x1) e83 := by
 unfold tens_own_int64 e83
 conv => arg 1; simp only [bodyOf, Tryz.f83]
 have z0 := d83_at
 exact Wk
theorem ok83 (fu : Nat) (x1 : List Int) (r) (h : tens_own_int64 fu x1 = some r) : PureOK Tryz.prog 83 [.arr x1.length (lm (ik .i64) x1)] (e83 r) := pureT mixed [] (ids := []) rfl (by decide) i83 (C := noC) (ci := fun cp => noI) (fun cp ok => noI_ok) (fun cp H => w83 cp fu x1 ) h
/-! 84: lattice/tens.own[bool] -/
open Aw (d84)
def d84_at := by have h := tabL Aw.d84.eq_1; simp only [AllAt, Nat.zero_add, Nat.reduceAdd] at h; exact h
theorem i84 : finfo Tryz.prog 84 d84 = some ⟨bodyOf Tryz.f84, [.tmp 2], [26]⟩ := finfo_at Tryz.func84 rfl (by kernel_rfl) (by kernel_rfl)
def e84 : (List Bool) → AV := fun r => .fresh 1 r.length (lm (bk) r)
set_option maxHeartbeats 20000000 in
theorem w84 (cp : CallP) (fu : Nat) (x1 : List Bool)  : J (go Tryz.prog noC cp noI 0 [] d84 fu (fin Tryz.prog [.tmp 2] [26]) (bodyOf Tryz.f84) (initE 0 [.arr x1.length (lm (bk) x1)]) [] []) (tens_own_bool fu x1) e84 := by
 unfold tens_own_bool e84
 conv => arg 1; simp only [bodyOf, Tryz.f84]
 have z0 := d84_at
 exact Wk
theorem ok84 (fu : Nat) (x1 : List Bool) (r) (h : tens_own_bool fu x1 = some r) : PureOK Tryz.prog 84 [.arr x1.length (lm (bk) x1)] (e84 r) := pureT mixed [] (ids := []) rfl (by decide) i84 (C := noC) (ci := fun cp => noI) (fun cp ok => noI_ok) (fun cp H => w84 cp fu x1 ) h
/-! 64: lattice/tens.Copy -/
open Aw (d64)
def d64_at := by have h := tabL Aw.d64.eq_1; simp only [AllAt, Nat.zero_add, Nat.reduceAdd] at h; exact h
theorem i64 : finfo Tryz.prog 64 d64 = some ⟨bodyOf Tryz.f64, [.cell 2 28], [28]⟩ := finfo_at Tryz.func64 rfl (by kernel_rfl) (by kernel_rfl)
def e64 : T_Tensor → AV := fun r => .agg [.v (.int .i64 r.fType), .fresh 1 r.fDims.length (lm (ik .i64) r.fDims), .fresh 1 r.fF.length (lm (ik .u32) r.fF), .fresh 1 r.fI.length (lm (ik .i64) r.fI), .fresh 1 r.fB.length (lm (bk) r.fB)]
structure K81 (fu : Nat) (cp : CallP) : Prop where
 ap : ∀ {a0 : List Int} {r}, tens_own_int fu a0 = some r → cp 81 [.arr a0.length (lm (ik .i64) a0)] = some (.fresh 1 r.length (lm (ik .i64) r))
noncomputable def C81 (fu : Nat) : Cm Tryz.prog (List Int) (List Int) := ⟨81, fun t => [.arr t.length (lm (ik .i64) t)], fun t => tens_own_int fu t, e81, fun t b h => ok81 fu t  b h, Zi⟩
theorem u81 {fu : Nat} {cp : CallP} (H : Hit cp (C81 fu).ct) : K81 fu cp := ⟨fun {a0 r} h => (C81 fu).at H a0 r h⟩
structure K82 (fu : Nat) (cp : CallP) : Prop where
 ap : ∀ {a0 : List Int} {r}, tens_own_uint32 fu a0 = some r → cp 82 [.arr a0.length (lm (ik .u32) a0)] = some (.fresh 1 r.length (lm (ik .u32) r))
noncomputable def C82 (fu : Nat) : Cm Tryz.prog (List Int) (List Int) := ⟨82, fun t => [.arr t.length (lm (ik .u32) t)], fun t => tens_own_uint32 fu t, e82, fun t b h => ok82 fu t  b h, Zi⟩
theorem u82 {fu : Nat} {cp : CallP} (H : Hit cp (C82 fu).ct) : K82 fu cp := ⟨fun {a0 r} h => (C82 fu).at H a0 r h⟩
structure K83 (fu : Nat) (cp : CallP) : Prop where
 ap : ∀ {a0 : List Int} {r}, tens_own_int64 fu a0 = some r → cp 83 [.arr a0.length (lm (ik .i64) a0)] = some (.fresh 1 r.length (lm (ik .i64) r))
noncomputable def C83 (fu : Nat) : Cm Tryz.prog (List Int) (List Int) := ⟨83, fun t => [.arr t.length (lm (ik .i64) t)], fun t => tens_own_int64 fu t, e83, fun t b h => ok83 fu t  b h, Zi⟩
theorem u83 {fu : Nat} {cp : CallP} (H : Hit cp (C83 fu).ct) : K83 fu cp := ⟨fun {a0 r} h => (C83 fu).at H a0 r h⟩
structure K84 (fu : Nat) (cp : CallP) : Prop where
 ap : ∀ {a0 : List Bool} {r}, tens_own_bool fu a0 = some r → cp 84 [.arr a0.length (lm (bk) a0)] = some (.fresh 1 r.length (lm (bk) r))
noncomputable def C84 (fu : Nat) : Cm Tryz.prog (List Bool) (List Bool) := ⟨84, fun t => [.arr t.length (lm (bk) t)], fun t => tens_own_bool fu t, e84, fun t b h => ok84 fu t  b h, Zi⟩
theorem u84 {fu : Nat} {cp : CallP} (H : Hit cp (C84 fu).ct) : K84 fu cp := ⟨fun {a0 r} h => (C84 fu).at H a0 r h⟩
set_option maxHeartbeats 20000000 in
theorem w64 (cp : CallP) (fu : Nat) (x1 : T_Tensor) (H1 : K81 fu cp) (H2 : K82 fu cp) (H3 : K83 fu cp) (H4 : K84 fu cp) : J (go Tryz.prog noC cp noI 0 [] d64 fu (fin Tryz.prog [.cell 2 28] [28]) (bodyOf Tryz.f64) (initE 0 [.agg (c_T_Tensor x1)]) [] []) (tens_Copy fu x1) e64 := by
 unfold tens_Copy e64
 conv => arg 1; simp only [bodyOf, Tryz.f64]
 have z0 := d64_at
 exact Wk
theorem ok64 (fu : Nat) (x1 : T_Tensor) (r) (h : tens_Copy fu x1 = some r) : PureOK Tryz.prog 64 [.agg (c_T_Tensor x1)] (e64 r) := pureT mixed [(C81 fu).ct, (C82 fu).ct, (C83 fu).ct, (C84 fu).ct] (ids := [81, 82, 83, 84]) rfl (by decide) i64 (C := noC) (ci := fun cp => noI) (fun cp ok => noI_ok) (fun cp H => w64 cp fu x1 (u81 H.1) (u82 H.2.1) (u83 H.2.2.1) (u84 H.2.2.2.1)) h
/-! 109: lattice/soft.Abs -/
open Aw (d109)
def d109_at := by have h := tabL Aw.d109.eq_1; simp only [AllAt, Nat.zero_add, Nat.reduceAdd] at h; exact h
theorem i109 : finfo Tryz.prog 109 d109 = some ⟨bodyOf Tryz.f109, [.tmp 2], [23]⟩ := finfo_at Tryz.func109 rfl (by kernel_rfl) (by kernel_rfl)
def e109 : Int → AV := fun r => .v (.int .u32 r)
set_option maxHeartbeats 20000000 in
theorem w109 (cp : CallP) (fu : Nat) (x1 : Int)  : J (go Tryz.prog noC cp noI 0 [] d109 fu (fin Tryz.prog [.tmp 2] [23]) (bodyOf Tryz.f109) (initE 0 [.v (.int .u32 x1)]) [] []) (soft_Abs fu x1) e109 := by
 unfold soft_Abs e109
 conv => arg 1; simp only [bodyOf, Tryz.f109]
 have z0 := d109_at
 exact Wk
theorem ok109 (fu : Nat) (x1 : Int) (r) (h : soft_Abs fu x1 = some r) : PureOK Tryz.prog 109 [.v (.int .u32 x1)] (e109 r) := pureT mixed [] (ids := []) rfl (by decide) i109 (C := noC) (ci := fun cp => noI) (fun cp ok => noI_ok) (fun cp H => w109 cp fu x1 ) h
/-! 85: lattice/soft.NaN -/
open Aw (d85)
def d85_at := by have h := tabL Aw.d85.eq_1; simp only [AllAt, Nat.zero_add, Nat.reduceAdd] at h; exact h
theorem i85 : finfo Tryz.prog 85 d85 = some ⟨bodyOf Tryz.f85, [.tmp 2], [4]⟩ := finfo_at Tryz.func85 rfl (by kernel_rfl) (by kernel_rfl)
def e85 : Bool → AV := fun r => .v (.bool r)
structure K109 (fu : Nat) (cp : CallP) : Prop where
 ap : ∀ {a0 : Int} {r}, soft_Abs fu a0 = some r → cp 109 [.v (.int .u32 a0)] = some (.v (.int .u32 r))
noncomputable def C109 (fu : Nat) : Cm Tryz.prog Int Int := ⟨109, fun t => [.v (.int .u32 t)], fun t => soft_Abs fu t, e109, fun t b h => ok109 fu t  b h, Zi⟩
theorem u109 {fu : Nat} {cp : CallP} (H : Hit cp (C109 fu).ct) : K109 fu cp := ⟨fun {a0 r} h => (C109 fu).at H a0 r h⟩
set_option maxHeartbeats 20000000 in
theorem w85 (cp : CallP) (fu : Nat) (x1 : Int) (H1 : K109 fu cp) : J (go Tryz.prog noC cp noI 0 [] d85 fu (fin Tryz.prog [.tmp 2] [4]) (bodyOf Tryz.f85) (initE 0 [.v (.int .u32 x1)]) [] []) (soft_NaN fu x1) e85 := by
 unfold soft_NaN e85
 conv => arg 1; simp only [bodyOf, Tryz.f85]
 have z0 := d85_at
 exact Wk
theorem ok85 (fu : Nat) (x1 : Int) (r) (h : soft_NaN fu x1 = some r) : PureOK Tryz.prog 85 [.v (.int .u32 x1)] (e85 r) := pureT mixed [(C109 fu).ct] (ids := [109]) rfl (by decide) i85 (C := noC) (ci := fun cp => noI) (fun cp ok => noI_ok) (fun cp H => w85 cp fu x1 (u109 H.1)) h
/-! 65: lattice/soft.Canon -/
open Aw (d65)
def d65_at := by have h := tabL Aw.d65.eq_1; simp only [AllAt, Nat.zero_add, Nat.reduceAdd] at h; exact h
theorem i65 : finfo Tryz.prog 65 d65 = some ⟨bodyOf Tryz.f65, [.tmp 2], [23]⟩ := finfo_at Tryz.func65 rfl (by kernel_rfl) (by kernel_rfl)
def e65 : Int → AV := fun r => .v (.int .u32 r)
structure K85 (fu : Nat) (cp : CallP) : Prop where
 ap : ∀ {a0 : Int} {r}, soft_NaN fu a0 = some r → cp 85 [.v (.int .u32 a0)] = some (.v (.bool r))
noncomputable def C85 (fu : Nat) : Cm Tryz.prog Int Bool := ⟨85, fun t => [.v (.int .u32 t)], fun t => soft_NaN fu t, e85, fun t b h => ok85 fu t  b h, Zi⟩
theorem u85 {fu : Nat} {cp : CallP} (H : Hit cp (C85 fu).ct) : K85 fu cp := ⟨fun {a0 r} h => (C85 fu).at H a0 r h⟩
set_option maxHeartbeats 20000000 in
theorem w65 (cp : CallP) (fu : Nat) (x1 : Int) (H1 : K85 fu cp) : J (go Tryz.prog noC cp noI 0 [] d65 fu (fin Tryz.prog [.tmp 2] [23]) (bodyOf Tryz.f65) (initE 0 [.v (.int .u32 x1)]) [] []) (soft_Canon fu x1) e65 := by
 unfold soft_Canon e65
 conv => arg 1; simp only [bodyOf, Tryz.f65]
 have z0 := d65_at
 exact Wk
theorem ok65 (fu : Nat) (x1 : Int) (r) (h : soft_Canon fu x1 = some r) : PureOK Tryz.prog 65 [.v (.int .u32 x1)] (e65 r) := pureT mixed [(C85 fu).ct] (ids := [85]) rfl (by decide) i65 (C := noC) (ci := fun cp => noI) (fun cp ok => noI_ok) (fun cp H => w65 cp fu x1 (u85 H.1)) h
/-! 36: lattice/tens.Canon -/
open Aw (d36)
def d36_at := by have h := tabL Aw.d36.eq_1; simp only [AllAt, Nat.zero_add, Nat.reduceAdd] at h; exact h
theorem i36 : finfo Tryz.prog 36 d36 = some ⟨bodyOf Tryz.f36, [.cell 2 28], [28]⟩ := finfo_at Tryz.func36 rfl (by kernel_rfl) (by kernel_rfl)
def e36 : T_Tensor → AV := fun r => .agg [.v (.int .i64 r.fType), .fresh 1 r.fDims.length (lm (ik .i64) r.fDims), .fresh 1 r.fF.length (lm (ik .u32) r.fF), .fresh 1 r.fI.length (lm (ik .i64) r.fI), .fresh 1 r.fB.length (lm (bk) r.fB)]
structure K64 (fu : Nat) (cp : CallP) : Prop where
 ap : ∀ {a0 : T_Tensor} {r}, tens_Copy fu a0 = some r → cp 64 [.agg (c_T_Tensor a0)] = some (.agg [.v (.int .i64 r.fType), .fresh 1 r.fDims.length (lm (ik .i64) r.fDims), .fresh 1 r.fF.length (lm (ik .u32) r.fF), .fresh 1 r.fI.length (lm (ik .i64) r.fI), .fresh 1 r.fB.length (lm (bk) r.fB)])
noncomputable def C64 (fu : Nat) : Cm Tryz.prog T_Tensor T_Tensor := ⟨64, fun t => [.agg (c_T_Tensor t)], fun t => tens_Copy fu t, e64, fun t b h => ok64 fu t  b h, Zi⟩
theorem u64 {fu : Nat} {cp : CallP} (H : Hit cp (C64 fu).ct) : K64 fu cp := ⟨fun {a0 r} h => (C64 fu).at H a0 r h⟩
structure K65 (fu : Nat) (cp : CallP) : Prop where
 ap : ∀ {a0 : Int} {r}, soft_Canon fu a0 = some r → cp 65 [.v (.int .u32 a0)] = some (.v (.int .u32 r))
noncomputable def C65 (fu : Nat) : Cm Tryz.prog Int Int := ⟨65, fun t => [.v (.int .u32 t)], fun t => soft_Canon fu t, e65, fun t b h => ok65 fu t  b h, Zi⟩
theorem u65 {fu : Nat} {cp : CallP} (H : Hit cp (C65 fu).ct) : K65 fu cp := ⟨fun {a0 r} h => (C65 fu).at H a0 r h⟩
def tens_Canon.m1 : LJ 1 6 Unit ((List Int) × Int) := ⟨fun r s e => [(2, er e 2), (3, er e 3), (9, .own (0, 7, 1) 0 s.1.length s.1.length), (10, er e 10), (11, .v (.int .i64 s.2))], fun r s h => [((0, 2, 0), hr h (0, 2, 0)), ((0, 7, 0), hr h (0, 7, 0)), ((0, 7, 1), .sl true true 1 s.1.length (lm (ik .u32) s.1)), ((0, 7, 2), hr h (0, 7, 2)), ((0, 7, 3), hr h (0, 7, 3)), ((0, 3, 0), bs (hr h (0, 3, 0)) 2 (.own (0, 7, 1) 0 s.1.length s.1.length))]⟩
set_option maxHeartbeats 20000000 in
open tens_Canon in
theorem w36 (cp : CallP) (fu : Nat) (x1 : T_Tensor) (H1 : K64 fu cp) (H2 : K65 fu cp) : J (go Tryz.prog noC cp noI 0 [] d36 fu (fin Tryz.prog [.cell 2 28] [28]) (bodyOf Tryz.f36) (initE 0 [.agg (c_T_Tensor x1)]) [] []) (tens_Canon fu x1) e36 := by
 unfold tens_Canon e36
 conv => arg 1; simp only [bodyOf, Tryz.f36]
 have z0 := d36_at
 exact Wk
theorem ok36 (fu : Nat) (x1 : T_Tensor) (r) (h : tens_Canon fu x1 = some r) : PureOK Tryz.prog 36 [.agg (c_T_Tensor x1)] (e36 r) := pureT mixed [(C64 fu).ct, (C65 fu).ct] (ids := [64, 65]) rfl (by decide) i36 (C := noC) (ci := fun cp => noI) (fun cp ok => noI_ok) (fun cp H => w36 cp fu x1 (u64 H.1) (u65 H.2.1)) h
/-! 70: slices.Clone[[]int,int] -/
def d70 : List (Nat × List Nat) := [(0, [2]), (0, []), (0, [3]), (0, []), (0, []), (0, []), (0, [0, 5, 6, 7])]
def d70_at := And.intro (show d70.getD 0 (0, []) = (0, [2]) from rfl) <| And.intro (show d70.getD 1 (0, []) = (0, []) from rfl) <| And.intro (show d70.getD 2 (0, []) = (0, [3]) from rfl) <| And.intro (show d70.getD 3 (0, []) = (0, []) from rfl) <| And.intro (show d70.getD 4 (0, []) = (0, []) from rfl) <| And.intro (show d70.getD 5 (0, []) = (0, []) from rfl) <| (show d70.getD 6 (0, []) = (0, [0, 5, 6, 7]) from rfl)
theorem i70 : finfo Tryz.prog 70 d70 = some ⟨bodyOf Tryz.f70, [.tmp 2], [22]⟩ := finfo_at Tryz.func70 rfl (by kernel_rfl) (by kernel_rfl)
def e70 : List Int → AV := fun r => .fresh 1 r.length (lm (ik .i64) r)
theorem ok70 (fu : Nat) (x1 : List Int) (r) (h : slices_Clone_int fu x1 = some r) : PureOK Tryz.prog 70 [.arr x1.length (lm (ik .i64) x1)] (e70 r) := by
  unfold slices_Clone_int chk at h
  split at h
  · rename_i hs; injection h with h; subst h
    cases x1 with
    | nil =>
      refine PureOK.arr0 fun a c => ?_
      refine pure_J mixed (C := noC) (cp := noP) (n := 0) noP_ok noI_ok i70 (s := some []) (enc := e70) ?_ rfl
      refine J.some ?_
      unfold e70
      cases a with
      | none =>
        conv => lhs; simp (disch := first | exact Zd | fail) only [bodyOf, Tryz.f70, ZZ, d70_at, simprocAttr, abin_sl tv22]
        rw [go_seq]
        simp (disch := first | exact Zd | fail) only [ZZ, d70_at, simprocAttr, abin_sl tv22, FF, NN, NT]
      | some a =>
        conv => lhs; simp (disch := first | exact Zd | fail) only [bodyOf, Tryz.f70, ZZ, d70_at, simprocAttr, abin_sl tv22]
        rw [go_seq]
        conv => lhs; simp (disch := first | exact Zd | fail) only [ZZ, d70_at, simprocAttr, abin_sl tv22]
        rw [ret_seq]
        simp (disch := first | exact Zd | fail) only [ZZ, d70_at, simprocAttr, abin_sl tv22, FF, NN, NT]
    | cons y x1 =>
      refine pure_J mixed (C := noC) (cp := noP) (n := 0) noP_ok noI_ok i70 (s := some (y :: x1)) (enc := e70) ?_ rfl
      refine J.some ?_
      have ha : ∀ xs, abin Tryz.prog .eql 22 (.arr (y :: x1).length xs) (.v (.slice none 0 0)) = some (.v (.bool false)) := fun xs => abin_an (op := .eql) tv22 (by simp)
      generalize y :: x1 = l at hs ha ⊢
      unfold e70
      conv => lhs; simp (disch := first | exact Zd | fail) only [bodyOf, Tryz.f70, ZZ, d70_at, simprocAttr, abin_sl tv22, ha]
      rw [go_seq]
      conv => lhs; simp (disch := first | exact Zd | fail) only [ZZ, d70_at, simprocAttr, abin_sl tv22, ha]
      rw [ret_seq]
      simp (disch := first | exact Zd | fail) only [ZZ, d70_at, simprocAttr, abin_sl tv22, FF, NN, NT, lm_length]
  · cases h
/-! 38: lattice/ewise.Vals -/
open Aw (d38)
def d38_at := by have h := tabL Aw.d38.eq_1; simp only [AllAt, Nat.zero_add, Nat.reduceAdd] at h; exact h
theorem i38 : finfo Tryz.prog 38 d38 = some ⟨bodyOf Tryz.f38, [.tmp 2], [73]⟩ := finfo_at Tryz.func38 rfl (by kernel_rfl) (by kernel_rfl)
def e38 : (List T_Val) → AV := fun r => .arr r.length (fm c_T_Val r)
structure K70 (fu : Nat) (cp : CallP) : Prop where
 ap : ∀ {a0 : List Int} {r}, slices_Clone_int fu a0 = some r → cp 70 [.arr a0.length (lm (ik .i64) a0)] = some (.fresh 1 r.length (lm (ik .i64) r))
noncomputable def C70 (fu : Nat) : Cm Tryz.prog (List Int) (List Int) := ⟨70, fun t => [.arr t.length (lm (ik .i64) t)], fun t => slices_Clone_int fu t, e70, fun t b h => ok70 fu t  b h, Zi⟩
theorem u70 {fu : Nat} {cp : CallP} (H : Hit cp (C70 fu).ct) : K70 fu cp := ⟨fun {a0 r} h => (C70 fu).at H a0 r h⟩
def ewise_Vals.m1 : LJ 1 6 Unit ((List T_Val) × Int) := ⟨fun r s e => [(3, .own (0, 3, 77) 0 s.1.length s.1.length), (7, er e 7), (8, er e 8), (9, .v (.int .i64 s.2))], fun r s h => [((0, 3, 77), .sl true true 8 s.1.length (fm c_T_Val s.1))]⟩
set_option maxHeartbeats 20000000 in
open ewise_Vals in
theorem w38 (cp : CallP) (fu : Nat) (x1 : List T_Tensor) (H1 : K70 fu cp) (H2 : K64 fu cp) : J (go Tryz.prog noC cp noI 0 [] d38 fu (finS Tryz.prog [.tmp 2] [73]) (bodyOf Tryz.f38) (initE 0 [.arr x1.length (fm c_T_Tensor x1)]) [] []) (ewise_Vals fu x1) e38 := by
 unfold ewise_Vals e38
 conv => arg 1; simp only [bodyOf, Tryz.f38]
 have z0 := d38_at
 have z1 := SE
 exact Wk
theorem ok38 (fu : Nat) (x1 : List T_Tensor) (r) (h : ewise_Vals fu x1 = some r) : PureOK Tryz.prog 38 [.arr x1.length (fm c_T_Tensor x1)] (e38 r) := pureST mixed [(C70 fu).ct, (C64 fu).ct] (ids := [70, 64]) rfl (by decide) i38 (C := noC) (ci := fun cp => noI) (fun cp ok => noI_ok) (fun cp H => w38 cp fu x1 (u70 H.1) (u64 H.2.1)) h
/-! 86: lattice/ops.Arity -/
def e86 : (Int × Int × Int × Int) → AV := fun r => .tuple [.v (.int .i64 r.1), .v (.int .i64 r.2.1), .v (.int .i64 r.2.2.1), .v (.int .i64 r.2.2.2)]
theorem ok86 (fu : Nat) (x1 : Int) (r) (h : ops_Arity fu x1 = some r) : PureOK Tryz.prog 86 [.v (.int .i64 x1)] (e86 r) := by
  unfold ops_Arity chk at h
  split at h
  · rename_i hx; injection h with h; subst h
    obtain rfl := hx
    exact closed86
  · cases h
/-! 103: (lattice/infer.ask).val -/
open Aw (d103)
def d103_at := by have h := tabL Aw.d103.eq_1; simp only [AllAt, Nat.zero_add, Nat.reduceAdd] at h; exact h
theorem i103 : finfo Tryz.prog 103 d103 = some ⟨bodyOf Tryz.f103, [.cell 4 78], [78]⟩ := finfo_at Tryz.func103 rfl (by kernel_rfl) (by kernel_rfl)
def e103 : T_Val → AV := fun r => .agg [.v (.int .i64 r.fType), .arr r.fDims.length (lm (ik .i64) r.fDims), .v (.bool r.fConst), .v (.int .i64 r.fT.fType), .arr r.fT.fDims.length (lm (ik .i64) r.fT.fDims), .arr r.fT.fF.length (lm (ik .u32) r.fT.fF), .arr r.fT.fI.length (lm (ik .i64) r.fT.fI), .arr r.fT.fB.length (lm (bk) r.fT.fB)]
set_option maxHeartbeats 20000000 in
theorem w103 (cp : CallP) (fu : Nat) (x1 : T_infer_ask) (x2 : Int)  : J (go Tryz.prog noC cp noI 0 [] d103 fu (finS Tryz.prog [.cell 4 78] [78]) (bodyOf Tryz.f103) (initE 0 [.agg (c_T_infer_ask x1), .v (.int .i64 x2)]) [] []) (infer_ask_val fu x1 x2) e103 := by
 unfold infer_ask_val e103
 conv => arg 1; simp only [bodyOf, Tryz.f103]
 have z0 := d103_at
 have z1 := SE
 exact Wk
theorem ok103 (fu : Nat) (x1 : T_infer_ask) (x2 : Int) (r) (h : infer_ask_val fu x1 x2 = some r) : PureOK Tryz.prog 103 [.agg (c_T_infer_ask x1), .v (.int .i64 x2)] (e103 r) := pureST mixed [] (ids := []) rfl (by decide) i103 (C := noC) (ci := fun cp => noI) (fun cp ok => noI_ok) (fun cp H => w103 cp fu x1 x2 ) h
/-! 87: (lattice/infer.ask).has -/
open Aw (d87)
def d87_at := by have h := tabL Aw.d87.eq_1; simp only [AllAt, Nat.zero_add, Nat.reduceAdd] at h; exact h
theorem i87 : finfo Tryz.prog 87 d87 = some ⟨bodyOf Tryz.f87, [.tmp 4], [4]⟩ := finfo_at Tryz.func87 rfl (by kernel_rfl) (by kernel_rfl)
def e87 : Bool → AV := fun r => .v (.bool r)
structure K103 (fu : Nat) (cp : CallP) : Prop where
 ap : ∀ {a0 : T_infer_ask} {a1 : Int} {r}, infer_ask_val fu a0 a1 = some r → cp 103 [.agg (c_T_infer_ask a0), .v (.int .i64 a1)] = some (.agg [.v (.int .i64 r.fType), .arr r.fDims.length (lm (ik .i64) r.fDims), .v (.bool r.fConst), .v (.int .i64 r.fT.fType), .arr r.fT.fDims.length (lm (ik .i64) r.fT.fDims), .arr r.fT.fF.length (lm (ik .u32) r.fT.fF), .arr r.fT.fI.length (lm (ik .i64) r.fT.fI), .arr r.fT.fB.length (lm (bk) r.fT.fB)])
noncomputable def C103 (fu : Nat) : Cm Tryz.prog (T_infer_ask × Int) T_Val := ⟨103, fun t => [.agg (c_T_infer_ask t.1), .v (.int .i64 t.2)], fun t => infer_ask_val fu t.1 t.2, e103, fun t b h => ok103 fu t.1 t.2  b h, Zi⟩
theorem u103 {fu : Nat} {cp : CallP} (H : Hit cp (C103 fu).ct) : K103 fu cp := ⟨fun {a0 a1 r} h => (C103 fu).at H (a0, a1) r h⟩
set_option maxHeartbeats 20000000 in
theorem w87 (cp : CallP) (fu : Nat) (x1 : T_infer_ask) (x2 : Int) (H1 : K103 fu cp) : J (go Tryz.prog noC cp noI 0 [] d87 fu (fin Tryz.prog [.tmp 4] [4]) (bodyOf Tryz.f87) (initE 0 [.agg (c_T_infer_ask x1), .v (.int .i64 x2)]) [] []) (infer_ask_has fu x1 x2) e87 := by
 unfold infer_ask_has e87
 conv => arg 1; simp only [bodyOf, Tryz.f87]
 have z0 := d87_at
 exact Wk
theorem ok87 (fu : Nat) (x1 : T_infer_ask) (x2 : Int) (r) (h : infer_ask_has fu x1 x2 = some r) : PureOK Tryz.prog 87 [.agg (c_T_infer_ask x1), .v (.int .i64 x2)] (e87 r) := pureT mixed [(C103 fu).ct] (ids := [103]) rfl (by decide) i87 (C := noC) (ci := fun cp => noI) (fun cp ok => noI_ok) (fun cp H => w87 cp fu x1 x2 (u103 H.1)) h
/-! 66: (lattice/infer.ask).complete -/
open Aw (d66)
def d66_at := by have h := tabL Aw.d66.eq_1; simp only [AllAt, Nat.zero_add, Nat.reduceAdd] at h; exact h
theorem i66 : finfo Tryz.prog 66 d66 = some ⟨bodyOf Tryz.f66, [.tmp 2], [4]⟩ := finfo_at Tryz.func66 rfl (by kernel_rfl) (by kernel_rfl)
def e66 : Bool → AV := fun r => .v (.bool r)
structure K86 (fu : Nat) (cp : CallP) : Prop where
 ap : ∀ {a0 : Int} {r}, ops_Arity fu a0 = some r → cp 86 [.v (.int .i64 a0)] = some (.tuple [.v (.int .i64 r.1), .v (.int .i64 r.2.1), .v (.int .i64 r.2.2.1), .v (.int .i64 r.2.2.2)])
noncomputable def C86 (fu : Nat) : Cm Tryz.prog Int (Int × Int × Int × Int) := ⟨86, fun t => [.v (.int .i64 t)], fun t => ops_Arity fu t, e86, fun t b h => ok86 fu t  b h, Zi⟩
theorem u86 {fu : Nat} {cp : CallP} (H : Hit cp (C86 fu).ct) : K86 fu cp := ⟨fun {a0 r} h => (C86 fu).at H a0 r h⟩
structure K87 (fu : Nat) (cp : CallP) : Prop where
 ap : ∀ {a0 : T_infer_ask} {a1 : Int} {r}, infer_ask_has fu a0 a1 = some r → cp 87 [.agg (c_T_infer_ask a0), .v (.int .i64 a1)] = some (.v (.bool r))
noncomputable def C87 (fu : Nat) : Cm Tryz.prog (T_infer_ask × Int) Bool := ⟨87, fun t => [.agg (c_T_infer_ask t.1), .v (.int .i64 t.2)], fun t => infer_ask_has fu t.1 t.2, e87, fun t b h => ok87 fu t.1 t.2  b h, Zi⟩
theorem u87 {fu : Nat} {cp : CallP} (H : Hit cp (C87 fu).ct) : K87 fu cp := ⟨fun {a0 a1 r} h => (C87 fu).at H (a0, a1) r h⟩
def infer_ask_complete.m1 : LJ 1 10 Unit Int := ⟨fun r s e => [(1, er e 1), (49, er e 49), (50, .v (.int .i64 s))], fun r s h => [((0, 1, 0), hr h (0, 1, 0))]⟩
def infer_ask_complete.j1 : LJ 1 8 Unit Unit := ⟨fun r t e => [(1, er e 1), (3, er e 3)], fun r t h => [((0, 1, 0), hr h (0, 1, 0))]⟩
set_option maxHeartbeats 20000000 in
open infer_ask_complete in
theorem w66 (cp : CallP) (fu : Nat) (x1 : T_infer_ask) (H1 : K86 fu cp) (H2 : K87 fu cp) : J (go Tryz.prog noC cp noI 0 [] d66 fu (fin Tryz.prog [.tmp 2] [4]) (bodyOf Tryz.f66) (initE 0 [.agg (c_T_infer_ask x1)]) [] []) (infer_ask_complete fu x1) e66 := by
 unfold infer_ask_complete e66
 conv => arg 1; simp only [bodyOf, Tryz.f66]
 have z0 := d66_at
 exact Wk
theorem ok66 (fu : Nat) (x1 : T_infer_ask) (r) (h : infer_ask_complete fu x1 = some r) : PureOK Tryz.prog 66 [.agg (c_T_infer_ask x1)] (e66 r) := pureT mixed [(C86 fu).ct, (C87 fu).ct] (ids := [86, 87]) rfl (by decide) i66 (C := noC) (ci := fun cp => noI) (fun cp ok => noI_ok) (fun cp H => w66 cp fu x1 (u86 H.1) (u87 H.2.1)) h
/-! 111: lattice/infer.sorts -/
open Aw (d111)
def d111_at := by have h := tabL Aw.d111.eq_1; simp only [AllAt, Nat.zero_add, Nat.reduceAdd] at h; exact h
theorem i111 : finfo Tryz.prog 111 d111 = some ⟨bodyOf Tryz.f111, [.tmp 2], [9]⟩ := finfo_at Tryz.func111 rfl (by kernel_rfl) (by kernel_rfl)
def e111 : ByteArray → AV := fun r => .v (.string r)
def infer_sorts.j5 : LJ 5 210 Unit Unit := ⟨fun r t e => [(3, er e 3), (4, er e 4), (13, er e 13), (18, er e 18), (31, er e 31), (36, er e 36), (45, .v (.bool (decide ((75 : Int) = 51))))], fun r t h => []⟩
def infer_sorts.j4 : LJ 4 170 Unit Unit := ⟨fun r t e => [(3, er e 3), (4, er e 4), (13, er e 13), (18, er e 18), (31, er e 31), (36, .v (.bool (decide ((75 : Int) = 64))))], fun r t h => []⟩
def infer_sorts.j3 : LJ 3 114 Unit Unit := ⟨fun r t e => [(3, er e 3), (4, er e 4), (13, er e 13), (18, .v (.bool (decide ((75 : Int) = 43))))], fun r t h => []⟩
def infer_sorts.j2 : LJ 2 62 Unit Unit := ⟨fun r t e => [(3, er e 3), (4, er e 4), (13, .v (.bool (decide ((75 : Int) = 25))))], fun r t h => []⟩
def infer_sorts.j1 : LJ 1 42 Unit Unit := ⟨fun r t e => [(3, er e 3), (4, .v (.bool (decide ((75 : Int) = 71))))], fun r t h => []⟩
set_option maxHeartbeats 20000000 in
open infer_sorts in
theorem w111 (cp : CallP) (fu : Nat) (x1 : Int)  : J (go Tryz.prog noC cp noI 0 [] d111 fu (fin Tryz.prog [.tmp 2] [9]) (bodyOf Tryz.f111) (initE 0 [.v (.int .i64 x1)]) [] []) (infer_sorts fu x1) e111 := by
 unfold infer_sorts e111
 conv => arg 1; simp only [bodyOf, Tryz.f111]
 have z0 := d111_at
 exact Wk
theorem ok111 (fu : Nat) (x1 : Int) (r) (h : infer_sorts fu x1 = some r) : PureOK Tryz.prog 111 [.v (.int .i64 x1)] (e111 r) := pureT mixed [] (ids := []) rfl (by decide) i111 (C := noC) (ci := fun cp => noI) (fun cp ok => noI_ok) (fun cp H => w111 cp fu x1 ) h
/-! 112: (lattice/infer.ask).fits -/
open Aw (d112)
def d112_at := by have h := tabL Aw.d112.eq_1; simp only [AllAt, Nat.zero_add, Nat.reduceAdd] at h; exact h
theorem i112 : finfo Tryz.prog 112 d112 = some ⟨bodyOf Tryz.f112, [.tmp 6], [4]⟩ := finfo_at Tryz.func112 rfl (by kernel_rfl) (by kernel_rfl)
def e112 : Bool → AV := fun r => .v (.bool r)
def infer_ask_fits.j1 : LJ 1 0 Unit Bool := ⟨fun r t e => [(1, er e 1), (3, er e 3), (6, .v (.bool t)), (7, er e 7), (12, er e 12)], fun r t h => [((0, 3, 0), hr h (0, 3, 0))]⟩
set_option maxHeartbeats 20000000 in
open infer_ask_fits in
theorem w112 (cp : CallP) (fu : Nat) (x1 : T_infer_ask) (x2 : Int) (x3 : Int) (H1 : K103 fu cp) (H2 : K80 fu cp) : J (go Tryz.prog noC cp noI 0 [] d112 fu (fin Tryz.prog [.tmp 6] [4]) (bodyOf Tryz.f112) (initE 0 [.agg (c_T_infer_ask x1), .v (.int .i64 x2), .v (.int .u8 x3)]) [] []) (infer_ask_fits fu x1 x2 x3) e112 := by
 unfold infer_ask_fits e112
 conv => arg 1; simp only [bodyOf, Tryz.f112]
 have z0 := d112_at
 exact Wk
theorem ok112 (fu : Nat) (x1 : T_infer_ask) (x2 : Int) (x3 : Int) (r) (h : infer_ask_fits fu x1 x2 x3 = some r) : PureOK Tryz.prog 112 [.agg (c_T_infer_ask x1), .v (.int .i64 x2), .v (.int .u8 x3)] (e112 r) := pureT mixed [(C103 fu).ct, (C80 fu).ct] (ids := [103, 80]) rfl (by decide) i112 (C := noC) (ci := fun cp => noI) (fun cp ok => noI_ok) (fun cp H => w112 cp fu x1 x2 x3 (u103 H.1) (u80 H.2.1)) h
/-! 88: (lattice/infer.ask).typed -/
open Aw (d88)
def d88_at := by have h := tabL Aw.d88.eq_1; simp only [AllAt, Nat.zero_add, Nat.reduceAdd] at h; exact h
theorem i88 : finfo Tryz.prog 88 d88 = some ⟨bodyOf Tryz.f88, [.tmp 2], [4]⟩ := finfo_at Tryz.func88 rfl (by kernel_rfl) (by kernel_rfl)
def e88 : Bool → AV := fun r => .v (.bool r)
structure K111 (fu : Nat) (cp : CallP) : Prop where
 ap : ∀ {a0 : Int} {r}, infer_sorts fu a0 = some r → cp 111 [.v (.int .i64 a0)] = some (.v (.string r))
noncomputable def C111 (fu : Nat) : Cm Tryz.prog Int ByteArray := ⟨111, fun t => [.v (.int .i64 t)], fun t => infer_sorts fu t, e111, fun t b h => ok111 fu t  b h, Zi⟩
theorem u111 {fu : Nat} {cp : CallP} (H : Hit cp (C111 fu).ct) : K111 fu cp := ⟨fun {a0 r} h => (C111 fu).at H a0 r h⟩
structure K112 (fu : Nat) (cp : CallP) : Prop where
 ap : ∀ {a0 : T_infer_ask} {a1 : Int} {a2 : Int} {r}, infer_ask_fits fu a0 a1 a2 = some r → cp 112 [.agg (c_T_infer_ask a0), .v (.int .i64 a1), .v (.int .u8 a2)] = some (.v (.bool r))
noncomputable def C112 (fu : Nat) : Cm Tryz.prog (T_infer_ask × Int × Int) Bool := ⟨112, fun t => [.agg (c_T_infer_ask t.1), .v (.int .i64 t.2.1), .v (.int .u8 t.2.2)], fun t => infer_ask_fits fu t.1 t.2.1 t.2.2, e112, fun t b h => ok112 fu t.1 t.2.1 t.2.2  b h, Zi⟩
theorem u112 {fu : Nat} {cp : CallP} (H : Hit cp (C112 fu).ct) : K112 fu cp := ⟨fun {a0 a1 a2 r} h => (C112 fu).at H (a0, a1, a2) r h⟩
def infer_ask_typed.m1 : LJ 1 6 Unit Int := ⟨fun r s e => [(1, er e 1), (3, er e 3), (10, er e 10), (11, .v (.int .i64 s))], fun r s h => [((0, 1, 0), hr h (0, 1, 0))]⟩
def infer_ask_typed.j1 : LJ 1 16 Unit Unit := ⟨fun r t e => [(1, er e 1)], fun r t h => [((0, 1, 0), hr h (0, 1, 0))]⟩
set_option maxHeartbeats 20000000 in
open infer_ask_typed in
theorem w88 (cp : CallP) (fu : Nat) (x1 : T_infer_ask) (H1 : K111 fu cp) (H2 : K87 fu cp) (H3 : K103 fu cp) (H4 : K80 fu cp) (H5 : K112 fu cp) : J (go Tryz.prog noC cp noI 0 [] d88 fu (fin Tryz.prog [.tmp 2] [4]) (bodyOf Tryz.f88) (initE 0 [.agg (c_T_infer_ask x1)]) [] []) (infer_ask_typed fu x1) e88 := by
 unfold infer_ask_typed e88
 conv => arg 1; simp only [bodyOf, Tryz.f88]
 have z0 := d88_at
 exact Wk
theorem ok88 (fu : Nat) (x1 : T_infer_ask) (r) (h : infer_ask_typed fu x1 = some r) : PureOK Tryz.prog 88 [.agg (c_T_infer_ask x1)] (e88 r) := pureT mixed [(C111 fu).ct, (C87 fu).ct, (C103 fu).ct, (C80 fu).ct, (C112 fu).ct] (ids := [111, 87, 103, 80, 112]) rfl (by decide) i88 (C := noC) (ci := fun cp => noI) (fun cp ok => noI_ok) (fun cp H => w88 cp fu x1 (u111 H.1) (u87 H.2.1) (u103 H.2.2.1) (u80 H.2.2.2.1) (u112 H.2.2.2.2.1)) h
/-! 91: (lattice/infer.ask).dims -/
open Aw (d91)
def d91_at := by have h := tabL Aw.d91.eq_1; simp only [AllAt, Nat.zero_add, Nat.reduceAdd] at h; exact h
theorem i91 : finfo Tryz.prog 91 d91 = some ⟨bodyOf Tryz.f91, [.tmp 4], [22]⟩ := finfo_at Tryz.func91 rfl (by kernel_rfl) (by kernel_rfl)
def e91 : (List Int) → AV := fun r => .arr r.length (lm (ik .i64) r)
set_option maxHeartbeats 20000000 in
theorem w91 (cp : CallP) (fu : Nat) (x1 : T_infer_ask) (x2 : Int) (H1 : K103 fu cp) : J (go Tryz.prog noC cp noI 0 [] d91 fu (fin Tryz.prog [.tmp 4] [22]) (bodyOf Tryz.f91) (initE 0 [.agg (c_T_infer_ask x1), .v (.int .i64 x2)]) [] []) (infer_ask_dims fu x1 x2) e91 := by
 unfold infer_ask_dims e91
 conv => arg 1; simp only [bodyOf, Tryz.f91]
 have z0 := d91_at
 exact Wk
theorem ok91 (fu : Nat) (x1 : T_infer_ask) (x2 : Int) (r) (h : infer_ask_dims fu x1 x2 = some r) : PureOK Tryz.prog 91 [.agg (c_T_infer_ask x1), .v (.int .i64 x2)] (e91 r) := pureT mixed [(C103 fu).ct] (ids := [103]) rfl (by decide) i91 (C := noC) (ci := fun cp => noI) (fun cp ok => noI_ok) (fun cp H => w91 cp fu x1 x2 (u103 H.1)) h
/-! 113: (lattice/infer.ask).rank -/
open Aw (d113)
def d113_at := by have h := tabL Aw.d113.eq_1; simp only [AllAt, Nat.zero_add, Nat.reduceAdd] at h; exact h
theorem i113 : finfo Tryz.prog 113 d113 = some ⟨bodyOf Tryz.f113, [.tmp 2], [3]⟩ := finfo_at Tryz.func113 rfl (by kernel_rfl) (by kernel_rfl)
def e113 : Int → AV := fun r => .v (.int .i64 r)
structure K91 (fu : Nat) (cp : CallP) : Prop where
 ap : ∀ {a0 : T_infer_ask} {a1 : Int} {r}, infer_ask_dims fu a0 a1 = some r → cp 91 [.agg (c_T_infer_ask a0), .v (.int .i64 a1)] = some (.arr r.length (lm (ik .i64) r))
noncomputable def C91 (fu : Nat) : Cm Tryz.prog (T_infer_ask × Int) (List Int) := ⟨91, fun t => [.agg (c_T_infer_ask t.1), .v (.int .i64 t.2)], fun t => infer_ask_dims fu t.1 t.2, e91, fun t b h => ok91 fu t.1 t.2  b h, Zi⟩
theorem u91 {fu : Nat} {cp : CallP} (H : Hit cp (C91 fu).ct) : K91 fu cp := ⟨fun {a0 a1 r} h => (C91 fu).at H (a0, a1) r h⟩
set_option maxHeartbeats 20000000 in
theorem w113 (cp : CallP) (fu : Nat) (x1 : T_infer_ask) (H1 : K91 fu cp) : J (go Tryz.prog noC cp noI 0 [] d113 fu (fin Tryz.prog [.tmp 2] [3]) (bodyOf Tryz.f113) (initE 0 [.agg (c_T_infer_ask x1)]) [] []) (infer_ask_rank fu x1) e113 := by
 unfold infer_ask_rank e113
 conv => arg 1; simp only [bodyOf, Tryz.f113]
 have z0 := d113_at
 exact Wk
theorem ok113 (fu : Nat) (x1 : T_infer_ask) (r) (h : infer_ask_rank fu x1 = some r) : PureOK Tryz.prog 113 [.agg (c_T_infer_ask x1)] (e113 r) := pureT mixed [(C91 fu).ct] (ids := [91]) rfl (by decide) i113 (C := noC) (ci := fun cp => noI) (fun cp ok => noI_ok) (fun cp H => w113 cp fu x1 (u91 H.1)) h
/-! 117: lattice/infer.many -/
open Aw (d117)
def d117_at := by have h := tabL Aw.d117.eq_1; simp only [AllAt, Nat.zero_add, Nat.reduceAdd] at h; exact h
theorem i117 : finfo Tryz.prog 117 d117 = some ⟨bodyOf Tryz.f117, [.tmp 4], [4]⟩ := finfo_at Tryz.func117 rfl (by kernel_rfl) (by kernel_rfl)
def e117 : Bool → AV := fun r => .v (.bool r)
set_option maxHeartbeats 20000000 in
theorem w117 (cp : CallP) (fu : Nat) (x1 : List Int) (x2 : Int)  : J (go Tryz.prog noC cp noI 0 [] d117 fu (fin Tryz.prog [.tmp 4] [4]) (bodyOf Tryz.f117) (initE 0 [.arr x1.length (lm (ik .i64) x1), .v (.int .i64 x2)]) [] []) (infer_many fu x1 x2) e117 := by
 unfold infer_many e117
 conv => arg 1; simp only [bodyOf, Tryz.f117]
 have z0 := d117_at
 exact Wk
theorem ok117 (fu : Nat) (x1 : List Int) (x2 : Int) (r) (h : infer_many fu x1 x2 = some r) : PureOK Tryz.prog 117 [.arr x1.length (lm (ik .i64) x1), .v (.int .i64 x2)] (e117 r) := pureT mixed [] (ids := []) rfl (by decide) i117 (C := noC) (ci := fun cp => noI) (fun cp ok => noI_ok) (fun cp H => w117 cp fu x1 x2 ) h
/-! 118: (lattice/infer.ask).frames -/
open Aw (d118)
def d118_at := by have h := tabL Aw.d118.eq_1; simp only [AllAt, Nat.zero_add, Nat.reduceAdd] at h; exact h
theorem i118 : finfo Tryz.prog 118 d118 = some ⟨bodyOf Tryz.f118, [.tmp 2], [4]⟩ := finfo_at Tryz.func118 rfl (by kernel_rfl) (by kernel_rfl)
def e118 : Bool → AV := fun r => .v (.bool r)
structure K117 (fu : Nat) (cp : CallP) : Prop where
 ap : ∀ {a0 : List Int} {a1 : Int} {r}, infer_many fu a0 a1 = some r → cp 117 [.arr a0.length (lm (ik .i64) a0), .v (.int .i64 a1)] = some (.v (.bool r))
noncomputable def C117 (fu : Nat) : Cm Tryz.prog ((List Int) × Int) Bool := ⟨117, fun t => [.arr t.1.length (lm (ik .i64) t.1), .v (.int .i64 t.2)], fun t => infer_many fu t.1 t.2, e117, fun t b h => ok117 fu t.1 t.2  b h, Zi⟩
theorem u117 {fu : Nat} {cp : CallP} (H : Hit cp (C117 fu).ct) : K117 fu cp := ⟨fun {a0 a1 r} h => (C117 fu).at H (a0, a1) r h⟩
set_option maxHeartbeats 20000000 in
theorem w118 (cp : CallP) (fu : Nat) (x1 : T_infer_ask) (H1 : K117 fu cp) : J (go Tryz.prog noC cp noI 0 [] d118 fu (fin Tryz.prog [.tmp 2] [4]) (bodyOf Tryz.f118) (initE 0 [.agg (c_T_infer_ask x1)]) [] []) (infer_ask_frames fu x1) e118 := by
 unfold infer_ask_frames e118
 conv => arg 1; simp only [bodyOf, Tryz.f118]
 have z0 := d118_at
 exact Wk
theorem ok118 (fu : Nat) (x1 : T_infer_ask) (r) (h : infer_ask_frames fu x1 = some r) : PureOK Tryz.prog 118 [.agg (c_T_infer_ask x1)] (e118 r) := pureT mixed [(C117 fu).ct] (ids := [117]) rfl (by decide) i118 (C := noC) (ci := fun cp => noI) (fun cp ok => noI_ok) (fun cp H => w118 cp fu x1 (u117 H.1)) h
/-! 89: (lattice/infer.ask).attributes -/
open Aw (d89)
def d89_at := by have h := tabL Aw.d89.eq_1; simp only [AllAt, Nat.zero_add, Nat.reduceAdd] at h; exact h
theorem i89 : finfo Tryz.prog 89 d89 = some ⟨bodyOf Tryz.f89, [.tmp 2], [4]⟩ := finfo_at Tryz.func89 rfl (by kernel_rfl) (by kernel_rfl)
def e89 : Bool → AV := fun r => .v (.bool r)
structure K113 (fu : Nat) (cp : CallP) : Prop where
 ap : ∀ {a0 : T_infer_ask} {r}, infer_ask_rank fu a0 = some r → cp 113 [.agg (c_T_infer_ask a0)] = some (.v (.int .i64 r))
noncomputable def C113 (fu : Nat) : Cm Tryz.prog T_infer_ask Int := ⟨113, fun t => [.agg (c_T_infer_ask t)], fun t => infer_ask_rank fu t, e113, fun t b h => ok113 fu t  b h, Zi⟩
theorem u113 {fu : Nat} {cp : CallP} (H : Hit cp (C113 fu).ct) : K113 fu cp := ⟨fun {a0 r} h => (C113 fu).at H a0 r h⟩
structure K118 (fu : Nat) (cp : CallP) : Prop where
 ap : ∀ {a0 : T_infer_ask} {r}, infer_ask_frames fu a0 = some r → cp 118 [.agg (c_T_infer_ask a0)] = some (.v (.bool r))
noncomputable def C118 (fu : Nat) : Cm Tryz.prog T_infer_ask Bool := ⟨118, fun t => [.agg (c_T_infer_ask t)], fun t => infer_ask_frames fu t, e118, fun t b h => ok118 fu t  b h, Zi⟩
theorem u118 {fu : Nat} {cp : CallP} (H : Hit cp (C118 fu).ct) : K118 fu cp := ⟨fun {a0 r} h => (C118 fu).at H a0 r h⟩
def infer_ask_attributes.j2 : LJ 2 136 Unit Unit := ⟨fun r t e => [(1, er e 1), (3, er e 3), (4, er e 4), (17, er e 17), (58, er e 58), (99, er e 99), (131, .v (.bool (decide ((75 : Int) = 69))))], fun r t h => [((0, 1, 0), hr h (0, 1, 0)), ((0, 3, 0), hr h (0, 3, 0))]⟩
def infer_ask_attributes.j1 : LJ 1 104 Unit Unit := ⟨fun r t e => [(1, er e 1), (3, er e 3), (4, er e 4), (17, er e 17), (58, er e 58), (99, .v (.bool (decide ((75 : Int) = 80))))], fun r t h => [((0, 1, 0), hr h (0, 1, 0)), ((0, 3, 0), hr h (0, 3, 0))]⟩
set_option maxHeartbeats 20000000 in
open infer_ask_attributes in
theorem w89 (cp : CallP) (fu : Nat) (x1 : T_infer_ask) (H1 : K113 fu cp) (H2 : K117 fu cp) (H3 : K118 fu cp) : J (go Tryz.prog noC cp noI 0 [] d89 fu (fin Tryz.prog [.tmp 2] [4]) (bodyOf Tryz.f89) (initE 0 [.agg (c_T_infer_ask x1)]) [] []) (infer_ask_attributes fu x1) e89 := by
 unfold infer_ask_attributes e89
 conv => arg 1; simp only [bodyOf, Tryz.f89]
 have z0 := d89_at
 exact Wk
theorem ok89 (fu : Nat) (x1 : T_infer_ask) (r) (h : infer_ask_attributes fu x1 = some r) : PureOK Tryz.prog 89 [.agg (c_T_infer_ask x1)] (e89 r) := pureT mixed [(C113 fu).ct, (C117 fu).ct, (C118 fu).ct] (ids := [113, 117, 118]) rfl (by decide) i89 (C := noC) (ci := fun cp => noI) (fun cp ok => noI_ok) (fun cp H => w89 cp fu x1 (u113 H.1) (u117 H.2.1) (u118 H.2.2.1)) h
/-! 119: (lattice/infer.ask).lists -/
open Aw (d119)
def d119_at := by have h := tabL Aw.d119.eq_1; simp only [AllAt, Nat.zero_add, Nat.reduceAdd] at h; exact h
theorem i119 : finfo Tryz.prog 119 d119 = some ⟨bodyOf Tryz.f119, [.tmp 2], [73]⟩ := finfo_at Tryz.func119 rfl (by kernel_rfl) (by kernel_rfl)
def e119 : (List T_Val) → AV := fun r => .fresh 8 r.length (fm c_T_Val r)
def infer_ask_lists.j1 : LJ 1 6 Unit Unit := ⟨fun r t e => [(1, er e 1), (3, er e 3), (4, er e 4), (8, er e 8), (13, .v (.bool (decide ((75 : Int) = 65))))], fun r t h => [((0, 1, 0), hr h (0, 1, 0))]⟩
set_option maxHeartbeats 20000000 in
open infer_ask_lists in
theorem w119 (cp : CallP) (fu : Nat) (x1 : T_infer_ask)  : J (go Tryz.prog noC cp noI 0 [] d119 fu (fin Tryz.prog [.tmp 2] [73]) (bodyOf Tryz.f119) (initE 0 [.agg (c_T_infer_ask x1)]) [] []) (infer_ask_lists fu x1) e119 := by
 unfold infer_ask_lists e119
 conv => arg 1; simp only [bodyOf, Tryz.f119]
 have z0 := d119_at
 exact Wk
theorem ok119 (fu : Nat) (x1 : T_infer_ask) (r) (h : infer_ask_lists fu x1 = some r) : PureOK Tryz.prog 119 [.agg (c_T_infer_ask x1)] (e119 r) := pureT mixed [] (ids := []) rfl (by decide) i119 (C := noC) (ci := fun cp => noI) (fun cp ok => noI_ok) (fun cp H => w119 cp fu x1 ) h
/-! 149: slices.IndexFunc[[]lattice/api.Val,lattice/api.Val] -/
open Aw (d149)
def d149_at := by have h := tabL Aw.d149.eq_1; simp only [AllAt, Nat.zero_add, Nat.reduceAdd] at h; exact h
theorem i149 : finfo Tryz.prog 149 d149 = some ⟨bodyOf Tryz.f149, [.tmp 4], [3]⟩ := finfo_at Tryz.func149 rfl (by kernel_rfl) (by kernel_rfl)
def e149 : Int → AV := fun r => .v (.int .i64 r)
set_option maxHeartbeats 20000000 in
theorem w149 (cp : CallP) (fu : Nat) (x1 : List T_Val) (p1 : T_Val → Option Bool) (fv_p1 : FuncId) (ca_p1 : List AV) (cap_p1 : Capt ca_p1) (hp_p1 : ∀ (y0 : T_Val) r, p1 y0 = some r → cp fv_p1 ((.agg (c_T_Val y0)) :: ca_p1) = some (.v (.bool r))) : J (go Tryz.prog noC cp noI 0 [] d149 fu (fin Tryz.prog [.tmp 4] [3]) (bodyOf Tryz.f149) (initE 0 [.arr x1.length (fm c_T_Val x1), .fn fv_p1 [] ca_p1]) [] []) (slices_IndexFunc_api_Val_api_Val fu x1 p1) e149 := by
 unfold slices_IndexFunc_api_Val_api_Val e149
 have c4_p1 := fun g => (cap_p1.1 g).1; have c3_p1 := fun g => (cap_p1.1 g).2.1; have b4_p1 := fun g => (cap_p1.1 g).2.2.1; have b3_p1 := fun g => (cap_p1.1 g).2.2.2; have nm_p1 := cap_p1.2
 conv => arg 1; simp (disch := first | exact Zd | fail) only [bodyOf, Tryz.f149, ZZ, d149_at, simprocAttr, c4_p1, c3_p1, b4_p1, b3_p1, nm_p1]
 refine J.eq go_seq ?_
 conv => arg 1; simp (disch := first | exact Zd | fail) only [ZZ, d149_at, simprocAttr, c4_p1, c3_p1, b4_p1, b3_p1, nm_p1]
 unfold slices_IndexFunc_api_Val_api_Val.W1
 refine J.loop (fun (s : Int) => ([(0, .arr x1.length (fm c_T_Val x1)), (1, .fn fv_p1 [] ca_p1), (7, .v (.int .i64 (x1.length : Int))), (8, .v (.int .i64 s))], [])) (fun next s => slices_IndexFunc_api_Val_api_Val.L1 fu p1 x1 next s) (s0 := 0) ?_ ?_ ?_
 ·exact Ze
 ·exact Zh
 rintro nx1 k1 hn1 x4
 show J _ (slices_IndexFunc_api_Val_api_Val.L1 fu p1 x1 nx1 x4) _
 unfold slices_IndexFunc_api_Val_api_Val.L1
 conv => arg 1; simp (disch := first | exact Zd | fail) only [ZZ, d149_at, simprocAttr, c4_p1, c3_p1, b4_p1, b3_p1, nm_p1]
 refine J.eq go_seq ?_
 conv => arg 1; simp (disch := first | exact Zd | fail) only [ZZ, d149_at, simprocAttr, c4_p1, c3_p1, b4_p1, b3_p1, nm_p1]
 refine J.ite (fun h1 => ?_) (fun h1 => ?_)
 ·have h1' := decide_eq_true h1
  have h1'' : decide ((x1.length : Int) ≤ x4) = false := decide_eq_false (by omega)
  conv => arg 1; simp (disch := first | exact Zd | fail) only [ZZ, d149_at, simprocAttr, c4_p1, c3_p1, b4_p1, b3_p1, nm_p1, h1'', h1']
  refine J.eq ret_seq ?_
  refine J.eq go_seq ?_
  refine J.at fun x7 h2 h3 h4 => ?_
  refine J.bind fun x8 h5 => ?_
  have e_h5 := hp_p1 _ _ h5
  try simp only [NN, NT, LN, simprocAttr, DT] at e_h5
  conv => arg 1; simp (disch := first | exact Zd | fail) only [ZZ, d149_at, simprocAttr, c4_p1, c3_p1, b4_p1, b3_p1, nm_p1, h1'', h1', fm_cut c_T_Val_len h4, fm_fit c_T_Val_len h4, fm_at c_T_Val_len h4, fm_at0 c_T_Val_len h4, e_h5]
  refine J.ite (fun h6 => ?_) (fun h6 => ?_)
  ·have h6' : x8 = true := h6
   refine J.some ?_
   simp (maxSteps := 20000000) (disch := first | exact Zd | fail) only [ZZ, d149_at, simprocAttr, c4_p1, c3_p1, b4_p1, b3_p1, nm_p1, h1'', h1', fm_cut c_T_Val_len h4, fm_fit c_T_Val_len h4, fm_at c_T_Val_len h4, fm_at0 c_T_Val_len h4, e_h5, h6', FN]
  ·have h6' : x8 = false := Bool.eq_false_iff.2 h6
   conv => arg 1; simp (disch := first | exact Zd | fail) only [ZZ, d149_at, simprocAttr, c4_p1, c3_p1, b4_p1, b3_p1, nm_p1, h1'', h1', fm_cut c_T_Val_len h4, fm_fit c_T_Val_len h4, fm_at c_T_Val_len h4, fm_at0 c_T_Val_len h4, e_h5, h6']
   refine J.eq ret_seq ?_
   conv => arg 1; simp (disch := first | exact Zd | fail) only [ZZ, d149_at, simprocAttr, c4_p1, c3_p1, b4_p1, b3_p1, nm_p1, h1'', h1', fm_cut c_T_Val_len h4, fm_fit c_T_Val_len h4, fm_at c_T_Val_len h4, fm_at0 c_T_Val_len h4, e_h5, h6']
   refine J.next (s := wk .i64 (x4 + 1)) hn1 ?_ ?_
   ·exact Ze
   ·exact Zh
 ·have h1' := decide_eq_false h1
  have h1'' : decide ((x1.length : Int) ≤ x4) = true := decide_eq_true (by omega)
  conv => arg 1; simp (disch := first | exact Zd | fail) only [ZZ, d149_at, simprocAttr, c4_p1, c3_p1, b4_p1, b3_p1, nm_p1, h1'', h1']
  refine J.eq ret_seq ?_
  refine J.some ?_
  simp (maxSteps := 20000000) (disch := first | exact Zd | fail) only [ZZ, d149_at, simprocAttr, c4_p1, c3_p1, b4_p1, b3_p1, nm_p1, h1'', h1', FN]
noncomputable def t149 (fu : Nat) (x1 : List T_Val) (p1 : T_Val → Option Bool) (fv_p1 : FuncId) (ca_p1 : List AV) : CallP := orE fv_p1 (mkC (fun (t : T_Val) => ((.agg (c_T_Val t)) :: ca_p1 : List AV)) (fun t => p1 t) (fun r => .v (.bool r))) (noP)
theorem t149_ok (fu : Nat) (x1 : List T_Val) (p1 : T_Val → Option Bool) (fv_p1 : FuncId) (ca_p1 : List AV) (cap_p1 : Capt ca_p1) (hp_p1 : ∀ (y0 : T_Val) r, p1 y0 = some r → PureOK Tryz.prog fv_p1 ((.agg (c_T_Val y0)) :: ca_p1) (.v (.bool r))) : CpOK Tryz.prog (t149 fu x1 p1 fv_p1 ca_p1) := orE_ok (noP_ok) (mkC_ok (fun t b h => hp_p1 t b h))
theorem ok149 (fu : Nat) (x1 : List T_Val) (p1 : T_Val → Option Bool) (fv_p1 : FuncId) (ca_p1 : List AV) (cap_p1 : Capt ca_p1) (hp_p1 : ∀ (y0 : T_Val) r, p1 y0 = some r → PureOK Tryz.prog fv_p1 ((.agg (c_T_Val y0)) :: ca_p1) (.v (.bool r))) (r) (h : slices_IndexFunc_api_Val_api_Val fu x1 p1 = some r) : PureOK Tryz.prog 149 [.arr x1.length (fm c_T_Val x1), .fn fv_p1 [] ca_p1] (e149 r) :=
  pure_J mixed (cp := t149 fu x1 p1 fv_p1 ca_p1) (t149_ok fu x1 p1 fv_p1 ca_p1 cap_p1 hp_p1) noI_ok i149 (w149 _ fu x1 p1 fv_p1 ca_p1 cap_p1 (fun y0 r h => orE_hit (mkC_at (a := y0) (by intro a b h; first | (exact rfl) | (simp only [INJ, IJ] at h; first | exact h | (simp_all [Prod.ext_iff]) )) h)) ) h
/-! 120: slices.ContainsFunc[[]lattice/api.Val,lattice/api.Val] -/
open Aw (d120)
def d120_at := by have h := tabL Aw.d120.eq_1; simp only [AllAt, Nat.zero_add, Nat.reduceAdd] at h; exact h
theorem i120 : finfo Tryz.prog 120 d120 = some ⟨bodyOf Tryz.f120, [.tmp 4], [4]⟩ := finfo_at Tryz.func120 rfl (by kernel_rfl) (by kernel_rfl)
def e120 : Bool → AV := fun r => .v (.bool r)
set_option maxHeartbeats 20000000 in
theorem w120 (cp : CallP) (fu : Nat) (x1 : List T_Val) (p1 : T_Val → Option Bool) (fv_p1 : FuncId) (ca_p1 : List AV) (cap_p1 : Capt ca_p1) (hp_p1 : ∀ (y0 : T_Val) r, p1 y0 = some r → cp fv_p1 ((.agg (c_T_Val y0)) :: ca_p1) = some (.v (.bool r))) (H149_0 : ∀ (a0 : List T_Val) r, slices_IndexFunc_api_Val_api_Val fu a0 p1 = some r → cp 149 [.arr a0.length (fm c_T_Val a0), .fn fv_p1 [] ca_p1] = some (.v (.int .i64 r))) : J (go Tryz.prog noC cp noI 0 [] d120 fu (fin Tryz.prog [.tmp 4] [4]) (bodyOf Tryz.f120) (initE 0 [.arr x1.length (fm c_T_Val x1), .fn fv_p1 [] ca_p1]) [] []) (slices_ContainsFunc_api_Val_api_Val fu x1 p1) e120 := by
 unfold slices_ContainsFunc_api_Val_api_Val e120
 have c4_p1 := fun g => (cap_p1.1 g).1; have c3_p1 := fun g => (cap_p1.1 g).2.1; have b4_p1 := fun g => (cap_p1.1 g).2.2.1; have b3_p1 := fun g => (cap_p1.1 g).2.2.2; have nm_p1 := cap_p1.2
 refine J.bind fun x2 h1 => ?_
 have e_h1 := H149_0 _ _ h1
 try simp only [NN, NT, LN, simprocAttr, DT] at e_h1
 refine J.some ?_
 simp (maxSteps := 20000000) (disch := first | exact Zd | fail) only [bodyOf, Tryz.f120, ZZ, d120_at, simprocAttr, c4_p1, c3_p1, b4_p1, b3_p1, nm_p1, e_h1, FN]
noncomputable def t120 (fu : Nat) (x1 : List T_Val) (p1 : T_Val → Option Bool) (fv_p1 : FuncId) (ca_p1 : List AV) : CallP := orE 149 (mkC (fun (t : List T_Val) => ([.arr t.length (fm c_T_Val t), .fn fv_p1 [] ca_p1] : List AV)) (fun t => slices_IndexFunc_api_Val_api_Val fu t p1) e149) (orE fv_p1 (mkC (fun (t : T_Val) => ((.agg (c_T_Val t)) :: ca_p1 : List AV)) (fun t => p1 t) (fun r => .v (.bool r))) (noP))
theorem t120_ok (fu : Nat) (x1 : List T_Val) (p1 : T_Val → Option Bool) (fv_p1 : FuncId) (ca_p1 : List AV) (cap_p1 : Capt ca_p1) (hp_p1 : ∀ (y0 : T_Val) r, p1 y0 = some r → PureOK Tryz.prog fv_p1 ((.agg (c_T_Val y0)) :: ca_p1) (.v (.bool r))) : CpOK Tryz.prog (t120 fu x1 p1 fv_p1 ca_p1) := orE_ok (orE_ok (noP_ok) (mkC_ok (fun t b h => hp_p1 t b h))) (mkC_ok (fun t b h => ok149 fu t p1 fv_p1 ca_p1 cap_p1 hp_p1 b h))
theorem ok120 (fu : Nat) (x1 : List T_Val) (p1 : T_Val → Option Bool) (fv_p1 : FuncId) (ca_p1 : List AV) (cap_p1 : Capt ca_p1) (hp_p1 : ∀ (y0 : T_Val) r, p1 y0 = some r → PureOK Tryz.prog fv_p1 ((.agg (c_T_Val y0)) :: ca_p1) (.v (.bool r))) (r) (h : slices_ContainsFunc_api_Val_api_Val fu x1 p1 = some r) : PureOK Tryz.prog 120 [.arr x1.length (fm c_T_Val x1), .fn fv_p1 [] ca_p1] (e120 r) :=
  pure_J mixed (cp := t120 fu x1 p1 fv_p1 ca_p1) (t120_ok fu x1 p1 fv_p1 ca_p1 cap_p1 hp_p1) noI_ok i120 (w120 _ fu x1 p1 fv_p1 ca_p1 cap_p1 (fun y0 r h => orE_skip (fun hfv => mkC_none (by intro t h; simp at h)) (orE_hit (mkC_at (a := y0) (by intro a b h; first | (exact rfl) | (simp only [INJ, IJ] at h; first | exact h | (simp_all [Prod.ext_iff]) )) h))) (fun a0 r h => orE_hit (mkC_at (a := a0) (by intro a b h; first | (exact rfl) | (simp only [INJ, IJ] at h; first | exact h | (simp_all [Prod.ext_iff]) )) h))) h
/-! 128: slices.Equal[[]int,int] -/
def d128 : List (Nat × List Nat) := [(0, [4]), (0, [0, 1, 12, 13]), (0, [6, 7, 8, 9]), (0, []), (0, []), (0, []), (0, [11]), (0, []), (0, []), (0, []), (0, [15]), (0, []), (9, [5, 16, 17, 18, 19, 20, 21, 22, 23]), (0, []), (0, []), (0, []), (0, [25]), (0, []), (0, [])]
def d128_at := by have h := tabL d128.eq_1; simp only [AllAt, Nat.zero_add, Nat.reduceAdd] at h; exact h
theorem i128 : finfo Tryz.prog 128 d128 = some ⟨bodyOf Tryz.f128, [.tmp 4], [4]⟩ := finfo_at Tryz.func128 rfl (by kernel_rfl) (by kernel_rfl)
def e128 : Bool → AV := fun r => .v (.bool r)
def slices_Equal_int.m1 : LJ 1 8 Unit Int := ⟨fun r s e => [(0, er e 0), (1, er e 1), (12, er e 12), (13, .v (.int .i64 s))], fun r s h => []⟩
set_option maxHeartbeats 20000000 in
open slices_Equal_int in
theorem w128 (cp : CallP) (fu : Nat) (x1 : List Int) (x2 : List Int)  : J (go Tryz.prog noC cp noI 0 [] d128 fu (fin Tryz.prog [.tmp 4] [4]) (bodyOf Tryz.f128) (initE 0 [.arr x1.length (lm (ik .i64) x1), .arr x2.length (lm (ik .i64) x2)]) [] []) (slices_Equal_int fu x1 x2) e128 := by
 unfold slices_Equal_int e128
 conv => arg 1; simp only [bodyOf, Tryz.f128]
 have z0 := d128_at
 exact Wk
theorem ok128 (fu : Nat) (x1 : List Int) (x2 : List Int) (r) (h : slices_Equal_int fu x1 x2 = some r) : PureOK Tryz.prog 128 [.arr x1.length (lm (ik .i64) x1), .arr x2.length (lm (ik .i64) x2)] (e128 r) := pureT mixed [] (ids := []) rfl (by decide) i128 (C := noC) (ci := fun cp => noI) (fun cp ok => noI_ok) (fun cp H => w128 cp fu x1 x2 ) h
/-! 122: lattice/infer.held -/
def d122 : List (Nat × List Nat) := [(0, [0, 2]), (0, []), (0, [1, 3, 4, 5, 6, 7, 8, 9, 10, 11, 12, 13, 14, 15, 16, 17, 18, 19, 20, 21, 22, 23, 24, 25, 26])]
def d122_at := by have h := tabL d122.eq_1; simp only [AllAt, Nat.zero_add, Nat.reduceAdd] at h; exact h
theorem i122 : finfo Tryz.prog 122 d122 = some ⟨bodyOf Tryz.f122, [.tmp 2], [4]⟩ := finfo_at Tryz.func122 rfl (by kernel_rfl) (by kernel_rfl)
def e122 : Bool → AV := fun r => .v (.bool r)
structure K35 (fu : Nat) (cp : CallP) : Prop where
 ap : ∀ {a0 : T_Tensor} {r}, tens_Check fu a0 = some r → cp 35 [.agg (c_T_Tensor a0)] = some (.v (.int .i64 r))
noncomputable def C35 (fu : Nat) : Cm Tryz.prog T_Tensor Int := ⟨35, fun t => [.agg (c_T_Tensor t)], fun t => tens_Check fu t, e35, fun t b h => ok35 fu t  b h, Zi⟩
theorem u35 {fu : Nat} {cp : CallP} (H : Hit cp (C35 fu).ct) : K35 fu cp := ⟨fun {a0 r} h => (C35 fu).at H a0 r h⟩
structure K128 (fu : Nat) (cp : CallP) : Prop where
 ap : ∀ {a0 : List Int} {a1 : List Int} {r}, slices_Equal_int fu a0 a1 = some r → cp 128 [.arr a0.length (lm (ik .i64) a0), .arr a1.length (lm (ik .i64) a1)] = some (.v (.bool r))
noncomputable def C128 (fu : Nat) : Cm Tryz.prog ((List Int) × (List Int)) Bool := ⟨128, fun t => [.arr t.1.length (lm (ik .i64) t.1), .arr t.2.length (lm (ik .i64) t.2)], fun t => slices_Equal_int fu t.1 t.2, e128, fun t b h => ok128 fu t.1 t.2  b h, Zi⟩
theorem u128 {fu : Nat} {cp : CallP} (H : Hit cp (C128 fu).ct) : K128 fu cp := ⟨fun {a0 a1 r} h => (C128 fu).at H (a0, a1) r h⟩
set_option maxHeartbeats 20000000 in
theorem w122 (cp : CallP) (fu : Nat) (x1 : T_Val) (H1 : K35 fu cp) (H2 : K128 fu cp) : J (go Tryz.prog noC cp noI 0 [] d122 fu (fin Tryz.prog [.tmp 2] [4]) (bodyOf Tryz.f122) (initE 0 [.agg (c_T_Val x1)]) [] []) (infer_held fu x1) e122 := by
 unfold infer_held e122
 conv => arg 1; simp only [bodyOf, Tryz.f122]
 have z0 := d122_at
 exact Wk
theorem ok122 (fu : Nat) (x1 : T_Val) (r) (h : infer_held fu x1 = some r) : PureOK Tryz.prog 122 [.agg (c_T_Val x1)] (e122 r) := pureT mixed [(C35 fu).ct, (C128 fu).ct] (ids := [35, 128]) rfl (by decide) i122 (C := noC) (ci := fun cp => noI) (fun cp ok => noI_ok) (fun cp H => w122 cp fu x1 (u35 H.1) (u128 H.2.1)) h
/-! 121: (lattice/infer.ask).told$1 -/
def d121 : List (Nat × List Nat) := [(0, [0, 2]), (0, []), (0, [1, 3, 4, 5])]
def d121_at := by have h := tabL d121.eq_1; simp only [AllAt, Nat.zero_add, Nat.reduceAdd] at h; exact h
theorem i121 : finfo Tryz.prog 121 d121 = some ⟨bodyOf Tryz.f121, [.tmp 2], [4]⟩ := finfo_at Tryz.func121 rfl (by kernel_rfl) (by kernel_rfl)
def e121 : Bool → AV := fun r => .v (.bool r)
structure K122 (fu : Nat) (cp : CallP) : Prop where
 ap : ∀ {a0 : T_Val} {r}, infer_held fu a0 = some r → cp 122 [.agg (c_T_Val a0)] = some (.v (.bool r))
noncomputable def C122 (fu : Nat) : Cm Tryz.prog T_Val Bool := ⟨122, fun t => [.agg (c_T_Val t)], fun t => infer_held fu t, e122, fun t b h => ok122 fu t  b h, Zi⟩
theorem u122 {fu : Nat} {cp : CallP} (H : Hit cp (C122 fu).ct) : K122 fu cp := ⟨fun {a0 r} h => (C122 fu).at H a0 r h⟩
set_option maxHeartbeats 20000000 in
theorem w121 (cp : CallP) (fu : Nat) (x1 : T_Val) (H1 : K122 fu cp) : J (go Tryz.prog noC cp noI 0 [] d121 fu (fin Tryz.prog [.tmp 2] [4]) (bodyOf Tryz.f121) (initE 0 [.agg (c_T_Val x1)]) [] []) (infer_ask_told_1 fu x1) e121 := by
 unfold infer_ask_told_1 e121
 conv => arg 1; simp only [bodyOf, Tryz.f121]
 have z0 := d121_at
 exact Wk
theorem ok121 (fu : Nat) (x1 : T_Val) (r) (h : infer_ask_told_1 fu x1 = some r) : PureOK Tryz.prog 121 [.agg (c_T_Val x1)] (e121 r) := pureT mixed [(C122 fu).ct] (ids := [122]) rfl (by decide) i121 (C := noC) (ci := fun cp => noI) (fun cp ok => noI_ok) (fun cp H => w121 cp fu x1 (u122 H.1)) h
/-! 123: (lattice/infer.ask).told$2 -/
def d123 : List (Nat × List Nat) := [(0, [0, 2]), (0, []), (0, [1, 3, 4, 5, 6])]
def d123_at := by have h := tabL d123.eq_1; simp only [AllAt, Nat.zero_add, Nat.reduceAdd] at h; exact h
theorem i123 : finfo Tryz.prog 123 d123 = some ⟨bodyOf Tryz.f123, [.tmp 2], [4]⟩ := finfo_at Tryz.func123 rfl (by kernel_rfl) (by kernel_rfl)
def e123 : Bool → AV := fun r => .v (.bool r)
set_option maxHeartbeats 20000000 in
theorem w123 (cp : CallP) (fu : Nat) (x1 : T_Val)  : J (go Tryz.prog noC cp noI 0 [] d123 fu (fin Tryz.prog [.tmp 2] [4]) (bodyOf Tryz.f123) (initE 0 [.agg (c_T_Val x1)]) [] []) (infer_ask_told_2 fu x1) e123 := by
 unfold infer_ask_told_2 e123
 conv => arg 1; simp only [bodyOf, Tryz.f123]
 have z0 := d123_at
 exact Wk
theorem ok123 (fu : Nat) (x1 : T_Val) (r) (h : infer_ask_told_2 fu x1 = some r) : PureOK Tryz.prog 123 [.agg (c_T_Val x1)] (e123 r) := pureT mixed [] (ids := []) rfl (by decide) i123 (C := noC) (ci := fun cp => noI) (fun cp ok => noI_ok) (fun cp H => w123 cp fu x1 ) h
/-! 150: slices.IndexFunc[[]int64,int64] -/
def d150 : List (Nat × List Nat) := [(0, [4]), (0, [0, 1, 7, 8]), (0, [6]), (0, [5]), (0, []), (0, []), (0, [10]), (0, []), (0, [11, 12, 13, 14, 15]), (0, []), (0, [17]), (0, []), (0, [18]), (0, []), (0, [])]
def d150_at := by have h := tabL d150.eq_1; simp only [AllAt, Nat.zero_add, Nat.reduceAdd] at h; exact h
theorem i150 : finfo Tryz.prog 150 d150 = some ⟨bodyOf Tryz.f150, [.tmp 4], [3]⟩ := finfo_at Tryz.func150 rfl (by kernel_rfl) (by kernel_rfl)
def e150 : Int → AV := fun r => .v (.int .i64 r)
set_option maxHeartbeats 20000000 in
theorem w150 (cp : CallP) (fu : Nat) (x1 : List Int) (p1 : Int → Option Bool) (fv_p1 : FuncId) (ca_p1 : List AV) (cap_p1 : Capt ca_p1) (hp_p1 : ∀ (y0 : Int) r, p1 y0 = some r → cp fv_p1 ((.v (.int .i64 y0)) :: ca_p1) = some (.v (.bool r))) : J (go Tryz.prog noC cp noI 0 [] d150 fu (fin Tryz.prog [.tmp 4] [3]) (bodyOf Tryz.f150) (initE 0 [.arr x1.length (lm (ik .i64) x1), .fn fv_p1 [] ca_p1]) [] []) (slices_IndexFunc_int64 fu x1 p1) e150 := by
 unfold slices_IndexFunc_int64 e150
 have c4_p1 := fun g => (cap_p1.1 g).1; have c3_p1 := fun g => (cap_p1.1 g).2.1; have b4_p1 := fun g => (cap_p1.1 g).2.2.1; have b3_p1 := fun g => (cap_p1.1 g).2.2.2; have nm_p1 := cap_p1.2
 conv => arg 1; simp (disch := first | exact Zd | fail) only [bodyOf, Tryz.f150, ZZ, d150_at, simprocAttr, c4_p1, c3_p1, b4_p1, b3_p1, nm_p1]
 refine J.eq go_seq ?_
 conv => arg 1; simp (disch := first | exact Zd | fail) only [ZZ, d150_at, simprocAttr, c4_p1, c3_p1, b4_p1, b3_p1, nm_p1]
 unfold slices_IndexFunc_int64.W1
 refine J.loop (fun (s : Int) => ([(0, .arr x1.length (lm (ik .i64) x1)), (1, .fn fv_p1 [] ca_p1), (7, .v (.int .i64 (x1.length : Int))), (8, .v (.int .i64 s))], [])) (fun next s => slices_IndexFunc_int64.L1 fu p1 x1 next s) (s0 := 0) ?_ ?_ ?_
 ·exact Ze
 ·exact Zh
 rintro nx1 k1 hn1 x4
 show J _ (slices_IndexFunc_int64.L1 fu p1 x1 nx1 x4) _
 unfold slices_IndexFunc_int64.L1
 conv => arg 1; simp (disch := first | exact Zd | fail) only [ZZ, d150_at, simprocAttr, c4_p1, c3_p1, b4_p1, b3_p1, nm_p1]
 refine J.eq go_seq ?_
 conv => arg 1; simp (disch := first | exact Zd | fail) only [ZZ, d150_at, simprocAttr, c4_p1, c3_p1, b4_p1, b3_p1, nm_p1]
 refine J.ite (fun h1 => ?_) (fun h1 => ?_)
 ·have h1' := decide_eq_true h1
  have h1'' : decide ((x1.length : Int) ≤ x4) = false := decide_eq_false (by omega)
  conv => arg 1; simp (disch := first | exact Zd | fail) only [ZZ, d150_at, simprocAttr, c4_p1, c3_p1, b4_p1, b3_p1, nm_p1, h1'', h1']
  refine J.eq ret_seq ?_
  refine J.eq go_seq ?_
  refine J.at fun x7 h2 h3 h4 => ?_
  refine J.bind fun x8 h5 => ?_
  have e_h5 := hp_p1 _ _ h5
  try simp only [NN, NT, LN, simprocAttr, DT] at e_h5
  conv => arg 1; simp (disch := first | exact Zd | fail) only [ZZ, d150_at, simprocAttr, c4_p1, c3_p1, b4_p1, b3_p1, nm_p1, h1'', h1', lm_ik h4, e_h5]
  refine J.ite (fun h6 => ?_) (fun h6 => ?_)
  ·have h6' : x8 = true := h6
   refine J.some ?_
   simp (maxSteps := 20000000) (disch := first | exact Zd | fail) only [ZZ, d150_at, simprocAttr, c4_p1, c3_p1, b4_p1, b3_p1, nm_p1, h1'', h1', lm_ik h4, e_h5, h6', FN]
  ·have h6' : x8 = false := Bool.eq_false_iff.2 h6
   conv => arg 1; simp (disch := first | exact Zd | fail) only [ZZ, d150_at, simprocAttr, c4_p1, c3_p1, b4_p1, b3_p1, nm_p1, h1'', h1', lm_ik h4, e_h5, h6']
   refine J.eq ret_seq ?_
   conv => arg 1; simp (disch := first | exact Zd | fail) only [ZZ, d150_at, simprocAttr, c4_p1, c3_p1, b4_p1, b3_p1, nm_p1, h1'', h1', lm_ik h4, e_h5, h6']
   refine J.next (s := wk .i64 (x4 + 1)) hn1 ?_ ?_
   ·exact Ze
   ·exact Zh
 ·have h1' := decide_eq_false h1
  have h1'' : decide ((x1.length : Int) ≤ x4) = true := decide_eq_true (by omega)
  conv => arg 1; simp (disch := first | exact Zd | fail) only [ZZ, d150_at, simprocAttr, c4_p1, c3_p1, b4_p1, b3_p1, nm_p1, h1'', h1']
  refine J.eq ret_seq ?_
  refine J.some ?_
  simp (maxSteps := 20000000) (disch := first | exact Zd | fail) only [ZZ, d150_at, simprocAttr, c4_p1, c3_p1, b4_p1, b3_p1, nm_p1, h1'', h1', FN]
noncomputable def t150 (fu : Nat) (x1 : List Int) (p1 : Int → Option Bool) (fv_p1 : FuncId) (ca_p1 : List AV) : CallP := orE fv_p1 (mkC (fun (t : Int) => ((.v (.int .i64 t)) :: ca_p1 : List AV)) (fun t => p1 t) (fun r => .v (.bool r))) (noP)
theorem t150_ok (fu : Nat) (x1 : List Int) (p1 : Int → Option Bool) (fv_p1 : FuncId) (ca_p1 : List AV) (cap_p1 : Capt ca_p1) (hp_p1 : ∀ (y0 : Int) r, p1 y0 = some r → PureOK Tryz.prog fv_p1 ((.v (.int .i64 y0)) :: ca_p1) (.v (.bool r))) : CpOK Tryz.prog (t150 fu x1 p1 fv_p1 ca_p1) := orE_ok (noP_ok) (mkC_ok (fun t b h => hp_p1 t b h))
theorem ok150 (fu : Nat) (x1 : List Int) (p1 : Int → Option Bool) (fv_p1 : FuncId) (ca_p1 : List AV) (cap_p1 : Capt ca_p1) (hp_p1 : ∀ (y0 : Int) r, p1 y0 = some r → PureOK Tryz.prog fv_p1 ((.v (.int .i64 y0)) :: ca_p1) (.v (.bool r))) (r) (h : slices_IndexFunc_int64 fu x1 p1 = some r) : PureOK Tryz.prog 150 [.arr x1.length (lm (ik .i64) x1), .fn fv_p1 [] ca_p1] (e150 r) :=
  pure_J mixed (cp := t150 fu x1 p1 fv_p1 ca_p1) (t150_ok fu x1 p1 fv_p1 ca_p1 cap_p1 hp_p1) noI_ok i150 (w150 _ fu x1 p1 fv_p1 ca_p1 cap_p1 (fun y0 r h => orE_hit (mkC_at (a := y0) (by intro a b h; first | (exact rfl) | (simp only [INJ, IJ] at h; first | exact h | (simp_all [Prod.ext_iff]) )) h)) ) h
/-! 125: slices.ContainsFunc[[]int64,int64] -/
def d125 : List (Nat × List Nat) := [(0, [4]), (0, []), (0, [0, 1, 5, 6, 7, 8])]
def d125_at := by have h := tabL d125.eq_1; simp only [AllAt, Nat.zero_add, Nat.reduceAdd] at h; exact h
theorem i125 : finfo Tryz.prog 125 d125 = some ⟨bodyOf Tryz.f125, [.tmp 4], [4]⟩ := finfo_at Tryz.func125 rfl (by kernel_rfl) (by kernel_rfl)
def e125 : Bool → AV := fun r => .v (.bool r)
set_option maxHeartbeats 20000000 in
theorem w125 (cp : CallP) (fu : Nat) (x1 : List Int) (p1 : Int → Option Bool) (fv_p1 : FuncId) (ca_p1 : List AV) (cap_p1 : Capt ca_p1) (hp_p1 : ∀ (y0 : Int) r, p1 y0 = some r → cp fv_p1 ((.v (.int .i64 y0)) :: ca_p1) = some (.v (.bool r))) (H150_0 : ∀ (a0 : List Int) r, slices_IndexFunc_int64 fu a0 p1 = some r → cp 150 [.arr a0.length (lm (ik .i64) a0), .fn fv_p1 [] ca_p1] = some (.v (.int .i64 r))) : J (go Tryz.prog noC cp noI 0 [] d125 fu (fin Tryz.prog [.tmp 4] [4]) (bodyOf Tryz.f125) (initE 0 [.arr x1.length (lm (ik .i64) x1), .fn fv_p1 [] ca_p1]) [] []) (slices_ContainsFunc_int64 fu x1 p1) e125 := by
 unfold slices_ContainsFunc_int64 e125
 have c4_p1 := fun g => (cap_p1.1 g).1; have c3_p1 := fun g => (cap_p1.1 g).2.1; have b4_p1 := fun g => (cap_p1.1 g).2.2.1; have b3_p1 := fun g => (cap_p1.1 g).2.2.2; have nm_p1 := cap_p1.2
 refine J.bind fun x2 h1 => ?_
 have e_h1 := H150_0 _ _ h1
 try simp only [NN, NT, LN, simprocAttr, DT] at e_h1
 refine J.some ?_
 simp (maxSteps := 20000000) (disch := first | exact Zd | fail) only [bodyOf, Tryz.f125, ZZ, d125_at, simprocAttr, c4_p1, c3_p1, b4_p1, b3_p1, nm_p1, e_h1, FN]
noncomputable def t125 (fu : Nat) (x1 : List Int) (p1 : Int → Option Bool) (fv_p1 : FuncId) (ca_p1 : List AV) : CallP := orE 150 (mkC (fun (t : List Int) => ([.arr t.length (lm (ik .i64) t), .fn fv_p1 [] ca_p1] : List AV)) (fun t => slices_IndexFunc_int64 fu t p1) e150) (orE fv_p1 (mkC (fun (t : Int) => ((.v (.int .i64 t)) :: ca_p1 : List AV)) (fun t => p1 t) (fun r => .v (.bool r))) (noP))
theorem t125_ok (fu : Nat) (x1 : List Int) (p1 : Int → Option Bool) (fv_p1 : FuncId) (ca_p1 : List AV) (cap_p1 : Capt ca_p1) (hp_p1 : ∀ (y0 : Int) r, p1 y0 = some r → PureOK Tryz.prog fv_p1 ((.v (.int .i64 y0)) :: ca_p1) (.v (.bool r))) : CpOK Tryz.prog (t125 fu x1 p1 fv_p1 ca_p1) := orE_ok (orE_ok (noP_ok) (mkC_ok (fun t b h => hp_p1 t b h))) (mkC_ok (fun t b h => ok150 fu t p1 fv_p1 ca_p1 cap_p1 hp_p1 b h))
theorem ok125 (fu : Nat) (x1 : List Int) (p1 : Int → Option Bool) (fv_p1 : FuncId) (ca_p1 : List AV) (cap_p1 : Capt ca_p1) (hp_p1 : ∀ (y0 : Int) r, p1 y0 = some r → PureOK Tryz.prog fv_p1 ((.v (.int .i64 y0)) :: ca_p1) (.v (.bool r))) (r) (h : slices_ContainsFunc_int64 fu x1 p1 = some r) : PureOK Tryz.prog 125 [.arr x1.length (lm (ik .i64) x1), .fn fv_p1 [] ca_p1] (e125 r) :=
  pure_J mixed (cp := t125 fu x1 p1 fv_p1 ca_p1) (t125_ok fu x1 p1 fv_p1 ca_p1 cap_p1 hp_p1) noI_ok i125 (w125 _ fu x1 p1 fv_p1 ca_p1 cap_p1 (fun y0 r h => orE_skip (fun hfv => mkC_none (by intro t h; simp at h)) (orE_hit (mkC_at (a := y0) (by intro a b h; first | (exact rfl) | (simp only [INJ, IJ] at h; first | exact h | (simp_all [Prod.ext_iff]) )) h))) (fun a0 r h => orE_hit (mkC_at (a := a0) (by intro a b h; first | (exact rfl) | (simp only [INJ, IJ] at h; first | exact h | (simp_all [Prod.ext_iff]) )) h))) h
/-! 126: (lattice/infer.ask).told$3$1 -/
def d126 : List (Nat × List Nat) := [(0, [2]), (0, []), (0, [0, 3, 4])]
def d126_at := by have h := tabL d126.eq_1; simp only [AllAt, Nat.zero_add, Nat.reduceAdd] at h; exact h
theorem i126 : finfo Tryz.prog 126 d126 = some ⟨bodyOf Tryz.f126, [.tmp 2], [4]⟩ := finfo_at Tryz.func126 rfl (by kernel_rfl) (by kernel_rfl)
def e126 : Bool → AV := fun r => .v (.bool r)
set_option maxHeartbeats 20000000 in
theorem w126 (cp : CallP) (fu : Nat) (x1 : Int)  : J (go Tryz.prog noC cp noI 0 [] d126 fu (fin Tryz.prog [.tmp 2] [4]) (bodyOf Tryz.f126) (initE 0 [.v (.int .i64 x1)]) [] []) (infer_ask_told_3_1 fu x1) e126 := by
 unfold infer_ask_told_3_1 e126
 conv => arg 1; simp only [bodyOf, Tryz.f126]
 have z0 := d126_at
 exact Wk
theorem ok126 (fu : Nat) (x1 : Int) (r) (h : infer_ask_told_3_1 fu x1 = some r) : PureOK Tryz.prog 126 [.v (.int .i64 x1)] (e126 r) := pureT mixed [] (ids := []) rfl (by decide) i126 (C := noC) (ci := fun cp => noI) (fun cp ok => noI_ok) (fun cp H => w126 cp fu x1 ) h
/-! 124: (lattice/infer.ask).told$3 -/
def d124 : List (Nat × List Nat) := [(0, [0, 2]), (0, []), (0, [1, 3, 4, 5, 6])]
def d124_at := by have h := tabL d124.eq_1; simp only [AllAt, Nat.zero_add, Nat.reduceAdd] at h; exact h
theorem i124 : finfo Tryz.prog 124 d124 = some ⟨bodyOf Tryz.f124, [.tmp 2], [4]⟩ := finfo_at Tryz.func124 rfl (by kernel_rfl) (by kernel_rfl)
def e124 : Bool → AV := fun r => .v (.bool r)
structure K125 (fu : Nat) (cp : CallP) : Prop where
 ap : ∀ {a0 : List Int} {r}, slices_ContainsFunc_int64 fu a0 (fun y0 => infer_ask_told_3_1 fu y0) = some r → cp 125 [.arr a0.length (lm (ik .i64) a0), .fn 126 [] []] = some (.v (.bool r))
noncomputable def C125 (fu : Nat) : Cm Tryz.prog (List Int) Bool := ⟨125, fun t => [.arr t.length (lm (ik .i64) t), .fn 126 [] []], fun t => slices_ContainsFunc_int64 fu t (fun y0 => infer_ask_told_3_1 fu y0), e125, fun t b h => ok125 fu t (fun y0 => infer_ask_told_3_1 fu y0) 126 [] Capt.nil (fun y0 r h => ok126 fu y0  r h) b h, Zi⟩
theorem u125 {fu : Nat} {cp : CallP} (H : Hit cp (C125 fu).ct) : K125 fu cp := ⟨fun {a0 r} h => (C125 fu).at H a0 r h⟩
set_option maxHeartbeats 20000000 in
theorem w124 (cp : CallP) (fu : Nat) (x1 : T_Val) (H1 : K125 fu cp) : J (go Tryz.prog noC cp noI 0 [] d124 fu (fin Tryz.prog [.tmp 2] [4]) (bodyOf Tryz.f124) (initE 0 [.agg (c_T_Val x1)]) [] []) (infer_ask_told_3 fu x1) e124 := by
 unfold infer_ask_told_3 e124
 conv => arg 1; simp only [bodyOf, Tryz.f124]
 have z0 := d124_at
 exact Wk
theorem ok124 (fu : Nat) (x1 : T_Val) (r) (h : infer_ask_told_3 fu x1 = some r) : PureOK Tryz.prog 124 [.agg (c_T_Val x1)] (e124 r) := pureT mixed [(C125 fu).ct] (ids := [125]) rfl (by decide) i124 (C := noC) (ci := fun cp => noI) (fun cp ok => noI_ok) (fun cp H => w124 cp fu x1 (u125 H.1)) h
/-! 90: (lattice/infer.ask).told -/
open Aw (d90)
def d90_at := by have h := tabL Aw.d90.eq_1; simp only [AllAt, Nat.zero_add, Nat.reduceAdd] at h; exact h
theorem i90 : finfo Tryz.prog 90 d90 = some ⟨bodyOf Tryz.f90, [.tmp 2], [32]⟩ := finfo_at Tryz.func90 rfl (by kernel_rfl) (by kernel_rfl)
def e90 : Int → AV := fun r => .v (.int .i64 r)
set_option maxHeartbeats 20000000 in
theorem w90 (cp : CallP) (fu : Nat) (x1 : T_infer_ask) (H119_0 : ∀ (a0 : T_infer_ask) r, infer_ask_lists fu a0 = some r → cp 119 [.agg (c_T_infer_ask a0)] = some (.fresh 8 r.length (fm c_T_Val r))) (H120_0 : ∀ (a0 : List T_Val) r, slices_ContainsFunc_api_Val_api_Val fu a0 (fun y0 => infer_ask_told_1 fu y0) = some r → cp 120 [.arr a0.length (fm c_T_Val a0), .fn 121 [] []] = some (.v (.bool r))) (H120_1 : ∀ (a0 : List T_Val) r, slices_ContainsFunc_api_Val_api_Val fu a0 (fun y0 => infer_ask_told_2 fu y0) = some r → cp 120 [.arr a0.length (fm c_T_Val a0), .fn 123 [] []] = some (.v (.bool r))) (H120_2 : ∀ (a0 : List T_Val) r, slices_ContainsFunc_api_Val_api_Val fu a0 (fun y0 => infer_ask_told_3 fu y0) = some r → cp 120 [.arr a0.length (fm c_T_Val a0), .fn 124 [] []] = some (.v (.bool r))) : J (go Tryz.prog noC cp noI 0 [] d90 fu (fin Tryz.prog [.tmp 2] [32]) (bodyOf Tryz.f90) (initE 0 [.agg (c_T_infer_ask x1)]) [] []) (infer_ask_told fu x1) e90 := by
 unfold infer_ask_told e90
 refine J.chk fun h1 => ?_
 refine J.bind fun x2 h2 => ?_
 have e_h2 := H119_0 _ _ h2
 try simp only [NN, NT, LN, simprocAttr, DT] at e_h2
 conv => arg 1; simp (disch := first | exact Zd | fail) only [bodyOf, Tryz.f90, ZZ, d90_at, simprocAttr, h1, e_h2]
 refine J.eq go_seq ?_
 refine J.bind fun x3 h3 => ?_
 have e_h3 := H120_0 _ _ h3
 try simp only [NN, NT, LN, simprocAttr, DT] at e_h3
 conv => arg 1; simp (disch := first | exact Zd | fail) only [ZZ, d90_at, simprocAttr, h1, e_h2, e_h3]
 refine J.ite (fun h4 => ?_) (fun h4 => ?_)
 ·have h4' : x3 = true := h4
  refine J.some ?_
  simp (maxSteps := 20000000) (disch := first | exact Zd | fail) only [ZZ, d90_at, simprocAttr, h1, e_h2, e_h3, h4', FN]
 ·have h4' : x3 = false := Bool.eq_false_iff.2 h4
  refine J.bind fun x4 h5 => ?_
  have e_h5 := H120_1 _ _ h5
  try simp only [NN, NT, LN, simprocAttr, DT] at e_h5
  conv => arg 1; simp (disch := first | exact Zd | fail) only [ZZ, d90_at, simprocAttr, h1, e_h2, e_h3, h4', e_h5]
  refine J.ite (fun h6 => ?_) (fun h6 => ?_)
  ·have h6' : x4 = true := h6
   refine J.some ?_
   simp (maxSteps := 20000000) (disch := first | exact Zd | fail) only [ZZ, d90_at, simprocAttr, h1, e_h2, e_h3, h4', e_h5, h6', FN]
  ·have h6' : x4 = false := Bool.eq_false_iff.2 h6
   conv => arg 1; simp (disch := first | exact Zd | fail) only [ZZ, d90_at, simprocAttr, h1, e_h2, e_h3, h4', e_h5, h6']
   refine J.eq go_seq ?_
   refine J.bind fun x5 h7 => ?_
   have e_h7 := H120_2 _ _ h7
   try simp only [NN, NT, LN, simprocAttr, DT] at e_h7
   conv => arg 1; simp (disch := first | exact Zd | fail) only [ZZ, d90_at, simprocAttr, h1, e_h2, e_h3, h4', e_h5, h6', e_h7]
   refine J.eq ret_seq ?_
   conv => arg 1; simp (disch := first | exact Zd | fail) only [ZZ, d90_at, simprocAttr, h1, e_h2, e_h3, h4', e_h5, h6', e_h7]
   refine J.ite (fun h8 => ?_) (fun h8 => ?_)
   ·have h8' : x5 = true := h8
    refine J.some ?_
    simp (maxSteps := 20000000) (disch := first | exact Zd | fail) only [ZZ, d90_at, simprocAttr, h1, e_h2, e_h3, h4', e_h5, h6', e_h7, h8', FN]
   ·have h8' : x5 = false := Bool.eq_false_iff.2 h8
    conv => arg 1; simp (disch := first | exact Zd | fail) only [ZZ, d90_at, simprocAttr, h1, e_h2, e_h3, h4', e_h5, h6', e_h7, h8']
    refine J.eq ret_seq ?_
    refine J.some ?_
    simp (maxSteps := 20000000) (disch := first | exact Zd | fail) only [ZZ, d90_at, simprocAttr, h1, e_h2, e_h3, h4', e_h5, h6', e_h7, h8', FN]
noncomputable def t90 (fu : Nat) : CallP := orE 119 (mkC (fun (t : T_infer_ask) => ([.agg (c_T_infer_ask t)] : List AV)) (fun t => infer_ask_lists fu t) e119) (orE 120 (mkC (fun (t : List T_Val) => ([.arr t.length (fm c_T_Val t), .fn 121 [] []] : List AV)) (fun t => slices_ContainsFunc_api_Val_api_Val fu t (fun y0 => infer_ask_told_1 fu y0)) e120) (orE 120 (mkC (fun (t : List T_Val) => ([.arr t.length (fm c_T_Val t), .fn 123 [] []] : List AV)) (fun t => slices_ContainsFunc_api_Val_api_Val fu t (fun y0 => infer_ask_told_2 fu y0)) e120) (orE 120 (mkC (fun (t : List T_Val) => ([.arr t.length (fm c_T_Val t), .fn 124 [] []] : List AV)) (fun t => slices_ContainsFunc_api_Val_api_Val fu t (fun y0 => infer_ask_told_3 fu y0)) e120) (noP))))
theorem t90_ok (fu : Nat) : CpOK Tryz.prog (t90 fu ) := orE_ok (orE_ok (orE_ok (orE_ok (noP_ok) (mkC_ok (fun t b h => ok120 fu t (fun y0 => infer_ask_told_3 fu y0) 124 [] Capt.nil (fun y0 r h => ok124 fu y0  r h) b h))) (mkC_ok (fun t b h => ok120 fu t (fun y0 => infer_ask_told_2 fu y0) 123 [] Capt.nil (fun y0 r h => ok123 fu y0  r h) b h))) (mkC_ok (fun t b h => ok120 fu t (fun y0 => infer_ask_told_1 fu y0) 121 [] Capt.nil (fun y0 r h => ok121 fu y0  r h) b h))) (mkC_ok (fun t b h => ok119 fu t  b h))
theorem ok90 (fu : Nat) (x1 : T_infer_ask) (r) (h : infer_ask_told fu x1 = some r) : PureOK Tryz.prog 90 [.agg (c_T_infer_ask x1)] (e90 r) :=
  pure_J mixed (cp := t90 fu ) (t90_ok fu  ) noI_ok i90 (w90 _ fu x1  (fun a0 r h => orE_hit (mkC_at (a := a0) (by intro a b h; first | (exact rfl) | (simp only [INJ, IJ] at h; first | exact h | (simp_all [Prod.ext_iff]) )) h)) (fun a0 r h => orE_miss (by decide) (orE_hit (mkC_at (a := a0) (by intro a b h; first | (exact rfl) | (simp only [INJ, IJ] at h; first | exact h | (simp_all [Prod.ext_iff]) )) h))) (fun a0 r h => orE_miss (by decide) (orE_next (mkC_none (by intro t h; simp at h)) (orE_hit (mkC_at (a := a0) (by intro a b h; first | (exact rfl) | (simp only [INJ, IJ] at h; first | exact h | (simp_all [Prod.ext_iff]) )) h)))) (fun a0 r h => orE_miss (by decide) (orE_next (mkC_none (by intro t h; simp at h)) (orE_next (mkC_none (by intro t h; simp at h)) (orE_hit (mkC_at (a := a0) (by intro a b h; first | (exact rfl) | (simp only [INJ, IJ] at h; first | exact h | (simp_all [Prod.ext_iff]) )) h)))))) h
/-! 67: (lattice/infer.ask).wrong -/
open Aw (d67)
def d67_at := by have h := tabL Aw.d67.eq_1; simp only [AllAt, Nat.zero_add, Nat.reduceAdd] at h; exact h
theorem i67 : finfo Tryz.prog 67 d67 = some ⟨bodyOf Tryz.f67, [.tmp 2], [32]⟩ := finfo_at Tryz.func67 rfl (by kernel_rfl) (by kernel_rfl)
def e67 : Int → AV := fun r => .v (.int .i64 r)
structure K88 (fu : Nat) (cp : CallP) : Prop where
 ap : ∀ {a0 : T_infer_ask} {r}, infer_ask_typed fu a0 = some r → cp 88 [.agg (c_T_infer_ask a0)] = some (.v (.bool r))
noncomputable def C88 (fu : Nat) : Cm Tryz.prog T_infer_ask Bool := ⟨88, fun t => [.agg (c_T_infer_ask t)], fun t => infer_ask_typed fu t, e88, fun t b h => ok88 fu t  b h, Zi⟩
theorem u88 {fu : Nat} {cp : CallP} (H : Hit cp (C88 fu).ct) : K88 fu cp := ⟨fun {a0 r} h => (C88 fu).at H a0 r h⟩
structure K89 (fu : Nat) (cp : CallP) : Prop where
 ap : ∀ {a0 : T_infer_ask} {r}, infer_ask_attributes fu a0 = some r → cp 89 [.agg (c_T_infer_ask a0)] = some (.v (.bool r))
noncomputable def C89 (fu : Nat) : Cm Tryz.prog T_infer_ask Bool := ⟨89, fun t => [.agg (c_T_infer_ask t)], fun t => infer_ask_attributes fu t, e89, fun t b h => ok89 fu t  b h, Zi⟩
theorem u89 {fu : Nat} {cp : CallP} (H : Hit cp (C89 fu).ct) : K89 fu cp := ⟨fun {a0 r} h => (C89 fu).at H a0 r h⟩
structure K90 (fu : Nat) (cp : CallP) : Prop where
 ap : ∀ {a0 : T_infer_ask} {r}, infer_ask_told fu a0 = some r → cp 90 [.agg (c_T_infer_ask a0)] = some (.v (.int .i64 r))
noncomputable def C90 (fu : Nat) : Cm Tryz.prog T_infer_ask Int := ⟨90, fun t => [.agg (c_T_infer_ask t)], fun t => infer_ask_told fu t, e90, fun t b h => ok90 fu t  b h, Zi⟩
theorem u90 {fu : Nat} {cp : CallP} (H : Hit cp (C90 fu).ct) : K90 fu cp := ⟨fun {a0 r} h => (C90 fu).at H a0 r h⟩
def infer_ask_wrong.m1 : LJ 1 4 Unit Int := ⟨fun r s e => [(1, er e 1), (8, er e 8), (9, er e 9), (10, .v (.int .i64 s))], fun r s h => [((0, 1, 0), hr h (0, 1, 0))]⟩
def infer_ask_wrong.j1 : LJ 1 5 Unit Unit := ⟨fun r t e => [(1, er e 1)], fun r t h => [((0, 1, 0), hr h (0, 1, 0))]⟩
set_option maxHeartbeats 20000000 in
open infer_ask_wrong in
theorem w67 (cp : CallP) (fu : Nat) (x1 : T_infer_ask) (H1 : K30 fu cp) (H2 : K87 fu cp) (H3 : K88 fu cp) (H4 : K89 fu cp) (H5 : K90 fu cp) : J (go Tryz.prog noC cp noI 0 [] d67 fu (fin Tryz.prog [.tmp 2] [32]) (bodyOf Tryz.f67) (initE 0 [.agg (c_T_infer_ask x1)]) [] []) (infer_ask_wrong fu x1) e67 := by
 unfold infer_ask_wrong e67
 conv => arg 1; simp only [bodyOf, Tryz.f67]
 have z0 := d67_at
 exact Wk
theorem ok67 (fu : Nat) (x1 : T_infer_ask) (r) (h : infer_ask_wrong fu x1 = some r) : PureOK Tryz.prog 67 [.agg (c_T_infer_ask x1)] (e67 r) := pureT mixed [(C30 fu).ct, (C87 fu).ct, (C88 fu).ct, (C89 fu).ct, (C90 fu).ct] (ids := [30, 87, 88, 89, 90]) rfl (by decide) i67 (C := noC) (ci := fun cp => noI) (fun cp ok => noI_ok) (fun cp H => w67 cp fu x1 (u30 H.1) (u87 H.2.1) (u88 H.2.2.1) (u89 H.2.2.2.1) (u90 H.2.2.2.2.1)) h
/-! 94: lattice/infer.misfit -/
def d94 : List (Nat × List Nat) := [(0, [0, 1]), (0, []), (0, [])]
def d94_at := by have h := tabL d94.eq_1; simp only [AllAt, Nat.zero_add, Nat.reduceAdd] at h; exact h
theorem i94 : finfo Tryz.prog 94 d94 = some ⟨bodyOf Tryz.f94, [.tmp 0, .tmp 1], [98, 32]⟩ := finfo_at Tryz.func94 rfl (by kernel_rfl) (by kernel_rfl)
def e94 : ((List (List Int)) × Int) → AV := fun r => .tuple [.arr r.1.length (lm (avl (ik .i64)) r.1), .v (.int .i64 r.2)]
set_option maxHeartbeats 20000000 in
theorem w94 (cp : CallP) (fu : Nat)   : J (go Tryz.prog noC cp noI 0 [] d94 fu (finS Tryz.prog [.tmp 0, .tmp 1] [98, 32]) (bodyOf Tryz.f94) (initE 0 []) [] []) (infer_misfit fu) e94 := by
 unfold infer_misfit e94
 conv => arg 1; simp only [bodyOf, Tryz.f94]
 have z0 := d94_at
 have z1 := SE
 exact Wk
theorem ok94 (fu : Nat)  (r) (h : infer_misfit fu = some r) : PureOK Tryz.prog 94 [] (e94 r) := pureST mixed [] (ids := []) rfl (by decide) i94 (C := noC) (ci := fun cp => noI) (fun cp ok => noI_ok) (fun cp H => w94 cp fu ) h
/-! 156: lattice/infer.number -/
open Aw (d156)
def d156_at := by have h := tabL Aw.d156.eq_1; simp only [AllAt, Nat.zero_add, Nat.reduceAdd] at h; exact h
theorem i156 : finfo Tryz.prog 156 d156 = some ⟨bodyOf Tryz.f156, [.tmp 6], [3]⟩ := finfo_at Tryz.func156 rfl (by kernel_rfl) (by kernel_rfl)
def e156 : Int → AV := fun r => .v (.int .i64 r)
set_option maxHeartbeats 20000000 in
theorem w156 (cp : CallP) (fu : Nat) (x1 : List Int) (x2 : Int) (x3 : Int)  : J (go Tryz.prog noC cp noI 0 [] d156 fu (fin Tryz.prog [.tmp 6] [3]) (bodyOf Tryz.f156) (initE 0 [.arr x1.length (lm (ik .i64) x1), .v (.int .i64 x2), .v (.int .i64 x3)]) [] []) (infer_number fu x1 x2 x3) e156 := by
 unfold infer_number e156
 conv => arg 1; simp only [bodyOf, Tryz.f156]
 have z0 := d156_at
 exact Wk
theorem ok156 (fu : Nat) (x1 : List Int) (x2 : Int) (x3 : Int) (r) (h : infer_number fu x1 x2 x3 = some r) : PureOK Tryz.prog 156 [.arr x1.length (lm (ik .i64) x1), .v (.int .i64 x2), .v (.int .i64 x3)] (e156 r) := pureT mixed [] (ids := []) rfl (by decide) i156 (C := noC) (ci := fun cp => noI) (fun cp ok => noI_ok) (fun cp H => w156 cp fu x1 x2 x3 ) h
/-! 108: lattice/infer.ranged$1 -/
open Aw (d108)
def d108_at := by have h := tabL Aw.d108.eq_1; simp only [AllAt, Nat.zero_add, Nat.reduceAdd] at h; exact h
theorem i108 : finfo Tryz.prog 108 d108 = some ⟨bodyOf Tryz.f108, [.tmp 3], [4]⟩ := finfo_at Tryz.func108 rfl (by kernel_rfl) (by kernel_rfl)
def e108 : Bool → AV := fun r => .v (.bool r)
set_option maxHeartbeats 20000000 in
theorem w108 (cp : CallP) (fu : Nat) (x1 : Int) (x2 : Int)  : J (go Tryz.prog noC cp noI 0 [] d108 fu (fin Tryz.prog [.tmp 3] [4]) (bodyOf Tryz.f108) (initE 0 [.v (.int .i64 x1), .ref [.v (.int .i64 x2)] 0]) [] []) (infer_ranged_1 fu x1 x2) e108 := by
 unfold infer_ranged_1 e108
 conv => arg 1; simp only [bodyOf, Tryz.f108]
 have z0 := d108_at
 exact Wk
theorem ok108 (fu : Nat) (x1 : Int) (x2 : Int) (r) (h : infer_ranged_1 fu x1 x2 = some r) : PureOK Tryz.prog 108 [.v (.int .i64 x1), .ref [.v (.int .i64 x2)] 0] (e108 r) := pureT mixed [] (ids := []) rfl (by decide) i108 (C := noC) (ci := fun cp => noI) (fun cp ok => noI_ok) (fun cp H => w108 cp fu x1 x2 ) h
/-! 79: lattice/infer.ranged -/
open Aw (d79)
def d79_at := by have h := tabL Aw.d79.eq_1; simp only [AllAt, Nat.zero_add, Nat.reduceAdd] at h; exact h
theorem i79 : finfo Tryz.prog 79 d79 = some ⟨bodyOf Tryz.f79, [.tmp 4], [4]⟩ := finfo_at Tryz.func79 rfl (by kernel_rfl) (by kernel_rfl)
def e79 : Bool → AV := fun r => .v (.bool r)
structure K57 (fu : Nat) (cp : CallP) : Prop where
 ap : ∀ {a0 : List Int} {c1 : Int} {r}, slices_ContainsFunc_int fu a0 (fun y0 => infer_ranged_1 fu y0 c1) = some r → cp 57 [.arr a0.length (lm (ik .i64) a0), .fn 108 [] [.ref [.v (.int .i64 c1)] 0]] = some (.v (.bool r))
noncomputable def C57 (fu : Nat) : Cm Tryz.prog ((List Int) × Int) Bool := ⟨57, fun t => [.arr t.1.length (lm (ik .i64) t.1), .fn 108 [] [.ref [.v (.int .i64 t.2)] 0]], fun t => slices_ContainsFunc_int fu t.1 (fun y0 => infer_ranged_1 fu y0 t.2), e57, fun t b h => ok57 fu t.1 (fun y0 => infer_ranged_1 fu y0 t.2) 108 [.ref [.v (.int .i64 t.2)] 0] (Capt.ref Capt.nil) (fun y0 r h => ok108 fu y0 t.2 r h) b h, Zi⟩
theorem u57 {fu : Nat} {cp : CallP} (H : Hit cp (C57 fu).ct) : K57 fu cp := ⟨fun {a0 c1 r} h => (C57 fu).at H (a0, c1) r h⟩
set_option maxHeartbeats 20000000 in
theorem w79 (cp : CallP) (fu : Nat) (x1 : Int) (x2 : List Int) (H1 : K57 fu cp) : J (go Tryz.prog noC cp noI 0 [] d79 fu (fin Tryz.prog [.tmp 4] [4]) (bodyOf Tryz.f79) (initE 0 [.v (.int .i64 x1), .arr x2.length (lm (ik .i64) x2)]) [] []) (infer_ranged fu x1 x2) e79 := by
 unfold infer_ranged e79
 conv => arg 1; simp only [bodyOf, Tryz.f79]
 have z0 := d79_at
 exact Wk
theorem ok79 (fu : Nat) (x1 : Int) (x2 : List Int) (r) (h : infer_ranged fu x1 x2 = some r) : PureOK Tryz.prog 79 [.v (.int .i64 x1), .arr x2.length (lm (ik .i64) x2)] (e79 r) := pureT mixed [(C57 fu).ct] (ids := [57]) rfl (by decide) i79 (C := noC) (ci := fun cp => noI) (fun cp ok => noI_ok) (fun cp H => w79 cp fu x1 x2 (u57 H.1)) h
/-! 62: lattice/infer.Window -/
open Aw (d62)
def d62_at := by have h := tabL Aw.d62.eq_1; simp only [AllAt, Nat.zero_add, Nat.reduceAdd] at h; exact h
theorem i62 : finfo Tryz.prog 62 d62 = some ⟨bodyOf Tryz.f62, [.tmp 16, .tmp 17, .tmp 18], [3, 3, 32]⟩ := finfo_at Tryz.func62 rfl (by kernel_rfl) (by kernel_rfl)
def e62 : (Int × Int × Int) → AV := fun r => .tuple [.v (.int .i64 r.1), .v (.int .i64 r.2.1), .v (.int .i64 r.2.2)]
structure K79 (fu : Nat) (cp : CallP) : Prop where
 ap : ∀ {a0 : Int} {a1 : List Int} {r}, infer_ranged fu a0 a1 = some r → cp 79 [.v (.int .i64 a0), .arr a1.length (lm (ik .i64) a1)] = some (.v (.bool r))
noncomputable def C79 (fu : Nat) : Cm Tryz.prog (Int × (List Int)) Bool := ⟨79, fun t => [.v (.int .i64 t.1), .arr t.2.length (lm (ik .i64) t.2)], fun t => infer_ranged fu t.1 t.2, e79, fun t b h => ok79 fu t.1 t.2  b h, Zi⟩
theorem u79 {fu : Nat} {cp : CallP} (H : Hit cp (C79 fu).ct) : K79 fu cp := ⟨fun {a0 a1 r} h => (C79 fu).at H (a0, a1) r h⟩
def infer_Window.j2 : LJ 2 32 Unit (Int × Int) := ⟨fun r t e => [(0, er e 0), (2, er e 2), (4, .v (.int .i64 t.1)), (5, .v (.int .i64 t.2)), (7, er e 7), (19, er e 19)], fun r t h => []⟩
def infer_Window.j1 : LJ 1 6 Unit Unit := ⟨fun r t e => [(0, er e 0), (1, er e 1), (2, er e 2), (3, er e 3), (4, er e 4), (5, er e 5), (6, er e 6), (7, er e 7)], fun r t h => []⟩
set_option maxHeartbeats 20000000 in
open infer_Window in
theorem w62 (cp : CallP) (fu : Nat) (x1 : Int) (x2 : Int) (x3 : Int) (x4 : Int) (x5 : Int) (x6 : Int) (x7 : Int) (x8 : Bool) (H1 : K79 fu cp) : J (go Tryz.prog noC cp noI 0 [] d62 fu (fin Tryz.prog [.tmp 16, .tmp 17, .tmp 18] [3, 3, 32]) (bodyOf Tryz.f62) (initE 0 [.v (.int .i64 x1), .v (.int .i64 x2), .v (.int .i64 x3), .v (.int .i64 x4), .v (.int .i64 x5), .v (.int .i64 x6), .v (.int .i64 x7), .v (.bool x8)]) [] []) (infer_Window fu x1 x2 x3 x4 x5 x6 x7 x8) e62 := by
 unfold infer_Window e62
 conv => arg 1; simp only [bodyOf, Tryz.f62]
 have z0 := d62_at
 exact Wk
theorem ok62 (fu : Nat) (x1 : Int) (x2 : Int) (x3 : Int) (x4 : Int) (x5 : Int) (x6 : Int) (x7 : Int) (x8 : Bool) (r) (h : infer_Window fu x1 x2 x3 x4 x5 x6 x7 x8 = some r) : PureOK Tryz.prog 62 [.v (.int .i64 x1), .v (.int .i64 x2), .v (.int .i64 x3), .v (.int .i64 x4), .v (.int .i64 x5), .v (.int .i64 x6), .v (.int .i64 x7), .v (.bool x8)] (e62 r) := pureT mixed [(C79 fu).ct] (ids := [79]) rfl (by decide) i62 (C := noC) (ci := fun cp => noI) (fun cp ok => noI_ok) (fun cp H => w62 cp fu x1 x2 x3 x4 x5 x6 x7 x8 (u79 H.1)) h
/-! 142: (lattice/infer.ask).windows -/
open Aw (d142)
def d142_at := by have h := tabL Aw.d142.eq_1; simp only [AllAt, Nat.zero_add, Nat.reduceAdd] at h; exact h
theorem i142 : finfo Tryz.prog 142 d142 = some ⟨bodyOf Tryz.f142, [.tmp 4, .tmp 5], [22, 4]⟩ := finfo_at Tryz.func142 rfl (by kernel_rfl) (by kernel_rfl)
def e142 : ((List Int) × Bool) → AV := fun r => .tuple [.fresh 1 r.1.length (lm (ik .i64) r.1), .v (.bool r.2)]
structure K156 (fu : Nat) (cp : CallP) : Prop where
 ap : ∀ {a0 : List Int} {a1 : Int} {a2 : Int} {r}, infer_number fu a0 a1 a2 = some r → cp 156 [.arr a0.length (lm (ik .i64) a0), .v (.int .i64 a1), .v (.int .i64 a2)] = some (.v (.int .i64 r))
noncomputable def C156 (fu : Nat) : Cm Tryz.prog ((List Int) × Int × Int) Int := ⟨156, fun t => [.arr t.1.length (lm (ik .i64) t.1), .v (.int .i64 t.2.1), .v (.int .i64 t.2.2)], fun t => infer_number fu t.1 t.2.1 t.2.2, e156, fun t b h => ok156 fu t.1 t.2.1 t.2.2  b h, Zi⟩
theorem u156 {fu : Nat} {cp : CallP} (H : Hit cp (C156 fu).ct) : K156 fu cp := ⟨fun {a0 a1 a2 r} h => (C156 fu).at H (a0, a1, a2) r h⟩
structure K62 (fu : Nat) (cp : CallP) : Prop where
 ap : ∀ {a0 : Int} {a1 : Int} {a2 : Int} {a3 : Int} {a4 : Int} {a5 : Int} {a6 : Int} {a7 : Bool} {r}, infer_Window fu a0 a1 a2 a3 a4 a5 a6 a7 = some r → cp 62 [.v (.int .i64 a0), .v (.int .i64 a1), .v (.int .i64 a2), .v (.int .i64 a3), .v (.int .i64 a4), .v (.int .i64 a5), .v (.int .i64 a6), .v (.bool a7)] = some (.tuple [.v (.int .i64 r.1), .v (.int .i64 r.2.1), .v (.int .i64 r.2.2)])
noncomputable def C62 (fu : Nat) : Cm Tryz.prog (Int × Int × Int × Int × Int × Int × Int × Bool) (Int × Int × Int) := ⟨62, fun t => [.v (.int .i64 t.1), .v (.int .i64 t.2.1), .v (.int .i64 t.2.2.1), .v (.int .i64 t.2.2.2.1), .v (.int .i64 t.2.2.2.2.1), .v (.int .i64 t.2.2.2.2.2.1), .v (.int .i64 t.2.2.2.2.2.2.1), .v (.bool t.2.2.2.2.2.2.2)], fun t => infer_Window fu t.1 t.2.1 t.2.2.1 t.2.2.2.1 t.2.2.2.2.1 t.2.2.2.2.2.1 t.2.2.2.2.2.2.1 t.2.2.2.2.2.2.2, e62, fun t b h => ok62 fu t.1 t.2.1 t.2.2.1 t.2.2.2.1 t.2.2.2.2.1 t.2.2.2.2.2.1 t.2.2.2.2.2.2.1 t.2.2.2.2.2.2.2  b h, Zi⟩
theorem u62 {fu : Nat} {cp : CallP} (H : Hit cp (C62 fu).ct) : K62 fu cp := ⟨fun {a0 a1 a2 a3 a4 a5 a6 a7 r} h => (C62 fu).at H (a0, a1, a2, a3, a4, a5, a6, a7) r h⟩
def infer_ask_windows.m1 : LJ 1 8 Unit ((List Int) × Int) := ⟨fun r s e => [(1, er e 1), (2, er e 2), (6, .own (0, 6, 77) 0 s.1.length s.1.length), (7, er e 7), (14, .v (.int .i64 s.2))], fun r s h => [((0, 2, 0), hr h (0, 2, 0)), ((0, 6, 77), .sl true true 1 s.1.length (lm (ik .i64) s.1)), ((0, 7, 0), hr h (0, 7, 0))]⟩
set_option maxHeartbeats 20000000 in
open infer_ask_windows in
theorem w142 (cp : CallP) (fu : Nat) (x1 : T_infer_ask) (x2 : List Int) (H1 : K91 fu cp) (H2 : K156 fu cp) (H3 : K62 fu cp) : J (go Tryz.prog noC cp noI 0 [] d142 fu (fin Tryz.prog [.tmp 4, .tmp 5] [22, 4]) (bodyOf Tryz.f142) (initE 0 [.agg (c_T_infer_ask x1), .arr x2.length (lm (ik .i64) x2)]) [] []) (infer_ask_windows fu x1 x2) e142 := by
 unfold infer_ask_windows e142
 conv => arg 1; simp only [bodyOf, Tryz.f142]
 have z0 := d142_at
 exact Wk
theorem ok142 (fu : Nat) (x1 : T_infer_ask) (x2 : List Int) (r) (h : infer_ask_windows fu x1 x2 = some r) : PureOK Tryz.prog 142 [.agg (c_T_infer_ask x1), .arr x2.length (lm (ik .i64) x2)] (e142 r) := pureT mixed [(C91 fu).ct, (C156 fu).ct, (C62 fu).ct] (ids := [91, 156, 62]) rfl (by decide) i142 (C := noC) (ci := fun cp => noI) (fun cp ok => noI_ok) (fun cp H => w142 cp fu x1 x2 (u91 H.1) (u156 H.2.1) (u62 H.2.2.1)) h
/-! 102: lattice/infer.one -/
open Aw (d102)
def d102_at := by have h := tabL Aw.d102.eq_1; simp only [AllAt, Nat.zero_add, Nat.reduceAdd] at h; exact h
theorem i102 : finfo Tryz.prog 102 d102 = some ⟨bodyOf Tryz.f102, [.tmp 2, .tmp 3], [98, 32]⟩ := finfo_at Tryz.func102 rfl (by kernel_rfl) (by kernel_rfl)
def e102 : ((List (List Int)) × Int) → AV := fun r => .tuple [.arr r.1.length (lm (avl (ik .i64)) r.1), .v (.int .i64 r.2)]
set_option maxHeartbeats 20000000 in
theorem w102 (cp : CallP) (fu : Nat) (x1 : List Int)  : J (go Tryz.prog noC cp noI 0 [] d102 fu (finS Tryz.prog [.tmp 2, .tmp 3] [98, 32]) (bodyOf Tryz.f102) (initE 0 [.arr x1.length (lm (ik .i64) x1)]) [] []) (infer_one fu x1) e102 := by
 unfold infer_one e102
 conv => arg 1; simp only [bodyOf, Tryz.f102]
 have z0 := d102_at
 have z1 := SE
 exact Wk
theorem ok102 (fu : Nat) (x1 : List Int) (r) (h : infer_one fu x1 = some r) : PureOK Tryz.prog 102 [.arr x1.length (lm (ik .i64) x1)] (e102 r) := pureST mixed [] (ids := []) rfl (by decide) i102 (C := noC) (ci := fun cp => noI) (fun cp ok => noI_ok) (fun cp H => w102 cp fu x1 ) h
/-! 99: (lattice/infer.ask).conv -/
open Aw (d99)
def d99_at := by have h := tabL Aw.d99.eq_1; simp only [AllAt, Nat.zero_add, Nat.reduceAdd] at h; exact h
theorem i99 : finfo Tryz.prog 99 d99 = some ⟨bodyOf Tryz.f99, [.tmp 2, .tmp 3], [98, 32]⟩ := finfo_at Tryz.func99 rfl (by kernel_rfl) (by kernel_rfl)
def e99 : ((List (List Int)) × Int) → AV := fun r => .tuple [.arr r.1.length (lm (avl (ik .i64)) r.1), .v (.int .i64 r.2)]
structure K94 (fu : Nat) (cp : CallP) : Prop where
 ap : ∀ {r}, infer_misfit fu = some r → cp 94 [] = some (.tuple [.arr r.1.length (lm (avl (ik .i64)) r.1), .v (.int .i64 r.2)])
noncomputable def C94 (fu : Nat) : Cm Tryz.prog Unit ((List (List Int)) × Int) := ⟨94, fun t => [], fun t => infer_misfit fu , e94, fun t b h => ok94 fu   b h, Zi⟩
theorem u94 {fu : Nat} {cp : CallP} (H : Hit cp (C94 fu).ct) : K94 fu cp := ⟨fun { r} h => (C94 fu).at H () r h⟩
structure K142 (fu : Nat) (cp : CallP) : Prop where
 ap : ∀ {a0 : T_infer_ask} {a1 : List Int} {r}, infer_ask_windows fu a0 a1 = some r → cp 142 [.agg (c_T_infer_ask a0), .arr a1.length (lm (ik .i64) a1)] = some (.tuple [.fresh 1 r.1.length (lm (ik .i64) r.1), .v (.bool r.2)])
noncomputable def C142 (fu : Nat) : Cm Tryz.prog (T_infer_ask × (List Int)) ((List Int) × Bool) := ⟨142, fun t => [.agg (c_T_infer_ask t.1), .arr t.2.length (lm (ik .i64) t.2)], fun t => infer_ask_windows fu t.1 t.2, e142, fun t b h => ok142 fu t.1 t.2  b h, Zi⟩
theorem u142 {fu : Nat} {cp : CallP} (H : Hit cp (C142 fu).ct) : K142 fu cp := ⟨fun {a0 a1 r} h => (C142 fu).at H (a0, a1) r h⟩
structure K102 (fu : Nat) (cp : CallP) : Prop where
 ap : ∀ {a0 : List Int} {r}, infer_one fu a0 = some r → cp 102 [.arr a0.length (lm (ik .i64) a0)] = some (.tuple [.arr r.1.length (lm (avl (ik .i64)) r.1), .v (.int .i64 r.2)])
noncomputable def C102 (fu : Nat) : Cm Tryz.prog (List Int) ((List (List Int)) × Int) := ⟨102, fun t => [.arr t.length (lm (ik .i64) t)], fun t => infer_one fu t, e102, fun t b h => ok102 fu t  b h, Zi⟩
theorem u102 {fu : Nat} {cp : CallP} (H : Hit cp (C102 fu).ct) : K102 fu cp := ⟨fun {a0 r} h => (C102 fu).at H a0 r h⟩
def infer_ask_conv.j2 : LJ 2 12 Unit Unit := ⟨fun r t e => [(1, er e 1), (4, er e 4), (5, er e 5)], fun r t h => [((0, 1, 0), hr h (0, 1, 0))]⟩
def infer_ask_conv.j1 : LJ 1 8 Unit Unit := ⟨fun r t e => [(1, er e 1), (4, er e 4), (5, er e 5)], fun r t h => [((0, 1, 0), hr h (0, 1, 0))]⟩
set_option maxHeartbeats 20000000 in
open infer_ask_conv in
theorem w99 (cp : CallP) (fu : Nat) (x1 : T_infer_ask) (H1 : K91 fu cp) (H2 : K94 fu cp) (H3 : K87 fu cp) (H4 : K128 fu cp) (H5 : K142 fu cp) (H6 : K102 fu cp) : J (go Tryz.prog noCs cp noI 0 [] d99 fu (finS Tryz.prog [.tmp 2, .tmp 3] [98, 32]) (bodyOf Tryz.f99) (initE 0 [.agg (c_T_infer_ask x1)]) [] []) (infer_ask_conv fu x1) e99 := by
 unfold infer_ask_conv e99
 conv => arg 1; simp only [bodyOf, Tryz.f99]
 have z0 := d99_at
 have z1 := SE
 have z2 := @aop_callC
 have z3 := @aq_callC
 exact Wk
theorem ok99 (fu : Nat) (x1 : T_infer_ask) (r) (h : infer_ask_conv fu x1 = some r) : PureOK Tryz.prog 99 [.agg (c_T_infer_ask x1)] (e99 r) := pureST mixed [(C91 fu).ct, (C94 fu).ct, (C87 fu).ct, (C128 fu).ct, (C142 fu).ct, (C102 fu).ct] (ids := [91, 94, 87, 128, 142, 102]) rfl (by decide) i99 (C := noCs) (ci := fun cp => noI) (fun cp ok => noI_ok) (fun cp H => w99 cp fu x1 (u91 H.1) (u94 H.2.1) (u87 H.2.2.1) (u128 H.2.2.2.1) (u142 H.2.2.2.2.1) (u102 H.2.2.2.2.2.1)) h
/-! 68: (lattice/infer.ask).shapes -/
open Aw (d68)
def d68_at := by have h := tabL Aw.d68.eq_1; simp only [AllAt, Nat.zero_add, Nat.reduceAdd] at h; exact h
theorem i68 : finfo Tryz.prog 68 d68 = some ⟨bodyOf Tryz.f68, [.tmp 2, .tmp 3], [98, 32]⟩ := finfo_at Tryz.func68 rfl (by kernel_rfl) (by kernel_rfl)
def e68 : ((List (List Int)) × Int) → AV := fun r => .tuple [.arr r.1.length (lm (avl (ik .i64)) r.1), .v (.int .i64 r.2)]
structure K99 (fu : Nat) (cp : CallP) : Prop where
 ap : ∀ {a0 : T_infer_ask} {r}, infer_ask_conv fu a0 = some r → cp 99 [.agg (c_T_infer_ask a0)] = some (.tuple [.arr r.1.length (lm (avl (ik .i64)) r.1), .v (.int .i64 r.2)])
noncomputable def C99 (fu : Nat) : Cm Tryz.prog T_infer_ask ((List (List Int)) × Int) := ⟨99, fun t => [.agg (c_T_infer_ask t)], fun t => infer_ask_conv fu t, e99, fun t b h => ok99 fu t  b h, Zi⟩
theorem u99 {fu : Nat} {cp : CallP} (H : Hit cp (C99 fu).ct) : K99 fu cp := ⟨fun {a0 r} h => (C99 fu).at H a0 r h⟩
def infer_ask_shapes.j3 : LJ 3 222 Unit Unit := ⟨fun r t e => [(1, er e 1), (4, er e 4), (9, er e 9), (10, er e 10), (54, er e 54), (78, .v (.bool (decide ((75 : Int) = 71))))], fun r t h => [((0, 1, 0), hr h (0, 1, 0))]⟩
def infer_ask_shapes.j2 : LJ 2 190 Unit Unit := ⟨fun r t e => [(1, er e 1), (4, er e 4), (9, er e 9), (10, er e 10), (54, .v (.bool (decide ((75 : Int) = 64))))], fun r t h => [((0, 1, 0), hr h (0, 1, 0))]⟩
def infer_ask_shapes.j1 : LJ 1 82 Unit Unit := ⟨fun r t e => [(1, er e 1), (4, er e 4), (9, er e 9), (10, .v (.bool (decide ((75 : Int) = 42))))], fun r t h => [((0, 1, 0), hr h (0, 1, 0))]⟩
set_option maxHeartbeats 20000000 in
open infer_ask_shapes in
theorem w68 (cp : CallP) (fu : Nat) (x1 : T_infer_ask) (H1 : K91 fu cp) (H2 : K99 fu cp) : J (go Tryz.prog noC cp noI 0 [] d68 fu (finS Tryz.prog [.tmp 2, .tmp 3] [98, 32]) (bodyOf Tryz.f68) (initE 0 [.agg (c_T_infer_ask x1)]) [] []) (infer_ask_shapes fu x1) e68 := by
 unfold infer_ask_shapes e68
 conv => arg 1; simp only [bodyOf, Tryz.f68]
 have z0 := d68_at
 have z1 := SE
 exact Wk
theorem ok68 (fu : Nat) (x1 : T_infer_ask) (r) (h : infer_ask_shapes fu x1 = some r) : PureOK Tryz.prog 68 [.agg (c_T_infer_ask x1)] (e68 r) := pureST mixed [(C91 fu).ct, (C99 fu).ct] (ids := [91, 99]) rfl (by decide) i68 (C := noC) (ci := fun cp => noI) (fun cp ok => noI_ok) (fun cp H => w68 cp fu x1 (u91 H.1) (u99 H.2.1)) h
/-! 69: (lattice/infer.ask).out -/
open Aw (d69)
def d69_at := by have h := tabL Aw.d69.eq_1; simp only [AllAt, Nat.zero_add, Nat.reduceAdd] at h; exact h
theorem i69 : finfo Tryz.prog 69 d69 = some ⟨bodyOf Tryz.f69, [.tmp 2], [3]⟩ := finfo_at Tryz.func69 rfl (by kernel_rfl) (by kernel_rfl)
def e69 : Int → AV := fun r => .v (.int .i64 r)
def infer_ask_out.j3 : LJ 3 74 Unit Unit := ⟨fun r t e => [(1, er e 1), (4, er e 4), (5, er e 5), (17, .v (.bool (decide ((75 : Int) = 71))))], fun r t h => [((0, 1, 0), hr h (0, 1, 0))]⟩
def infer_ask_out.j2 : LJ 2 54 Unit Unit := ⟨fun r t e => [(1, er e 1), (4, er e 4), (5, .v (.bool (decide ((75 : Int) = 41))))], fun r t h => [((0, 1, 0), hr h (0, 1, 0))]⟩
def infer_ask_out.j1 : LJ 1 50 Unit Unit := ⟨fun r t e => [(1, er e 1)], fun r t h => [((0, 1, 0), hr h (0, 1, 0))]⟩
set_option maxHeartbeats 20000000 in
open infer_ask_out in
theorem w69 (cp : CallP) (fu : Nat) (x1 : T_infer_ask) (H1 : K103 fu cp) : J (go Tryz.prog noC cp noI 0 [] d69 fu (fin Tryz.prog [.tmp 2] [3]) (bodyOf Tryz.f69) (initE 0 [.agg (c_T_infer_ask x1)]) [] []) (infer_ask_out fu x1) e69 := by
 unfold infer_ask_out e69
 conv => arg 1; simp only [bodyOf, Tryz.f69]
 have z0 := d69_at
 exact Wk
theorem ok69 (fu : Nat) (x1 : T_infer_ask) (r) (h : infer_ask_out fu x1 = some r) : PureOK Tryz.prog 69 [.agg (c_T_infer_ask x1)] (e69 r) := pureT mixed [(C103 fu).ct] (ids := [103]) rfl (by decide) i69 (C := noC) (ci := fun cp => noI) (fun cp ok => noI_ok) (fun cp H => w69 cp fu x1 (u103 H.1)) h
/-! 37: lattice/infer.Node -/
open Aw (d37)
def d37_at := by have h := tabL Aw.d37.eq_1; simp only [AllAt, Nat.zero_add, Nat.reduceAdd] at h; exact h
theorem i37 : finfo Tryz.prog 37 d37 = some ⟨bodyOf Tryz.f37, [.tmp 8, .tmp 9], [73, 32]⟩ := finfo_at Tryz.func37 rfl (by kernel_rfl) (by kernel_rfl)
def e37 : ((List T_Val) × Int) → AV := fun r => .tuple [.arr r.1.length (fm c_T_Val r.1), .v (.int .i64 r.2)]
structure K66 (fu : Nat) (cp : CallP) : Prop where
 ap : ∀ {a0 : T_infer_ask} {r}, infer_ask_complete fu a0 = some r → cp 66 [.agg (c_T_infer_ask a0)] = some (.v (.bool r))
noncomputable def C66 (fu : Nat) : Cm Tryz.prog T_infer_ask Bool := ⟨66, fun t => [.agg (c_T_infer_ask t)], fun t => infer_ask_complete fu t, e66, fun t b h => ok66 fu t  b h, Zi⟩
theorem u66 {fu : Nat} {cp : CallP} (H : Hit cp (C66 fu).ct) : K66 fu cp := ⟨fun {a0 r} h => (C66 fu).at H a0 r h⟩
structure K67 (fu : Nat) (cp : CallP) : Prop where
 ap : ∀ {a0 : T_infer_ask} {r}, infer_ask_wrong fu a0 = some r → cp 67 [.agg (c_T_infer_ask a0)] = some (.v (.int .i64 r))
noncomputable def C67 (fu : Nat) : Cm Tryz.prog T_infer_ask Int := ⟨67, fun t => [.agg (c_T_infer_ask t)], fun t => infer_ask_wrong fu t, e67, fun t b h => ok67 fu t  b h, Zi⟩
theorem u67 {fu : Nat} {cp : CallP} (H : Hit cp (C67 fu).ct) : K67 fu cp := ⟨fun {a0 r} h => (C67 fu).at H a0 r h⟩
structure K68 (fu : Nat) (cp : CallP) : Prop where
 ap : ∀ {a0 : T_infer_ask} {r}, infer_ask_shapes fu a0 = some r → cp 68 [.agg (c_T_infer_ask a0)] = some (.tuple [.arr r.1.length (lm (avl (ik .i64)) r.1), .v (.int .i64 r.2)])
noncomputable def C68 (fu : Nat) : Cm Tryz.prog T_infer_ask ((List (List Int)) × Int) := ⟨68, fun t => [.agg (c_T_infer_ask t)], fun t => infer_ask_shapes fu t, e68, fun t b h => ok68 fu t  b h, Zi⟩
theorem u68 {fu : Nat} {cp : CallP} (H : Hit cp (C68 fu).ct) : K68 fu cp := ⟨fun {a0 r} h => (C68 fu).at H a0 r h⟩
structure K69 (fu : Nat) (cp : CallP) : Prop where
 ap : ∀ {a0 : T_infer_ask} {r}, infer_ask_out fu a0 = some r → cp 69 [.agg (c_T_infer_ask a0)] = some (.v (.int .i64 r))
noncomputable def C69 (fu : Nat) : Cm Tryz.prog T_infer_ask Int := ⟨69, fun t => [.agg (c_T_infer_ask t)], fun t => infer_ask_out fu t, e69, fun t b h => ok69 fu t  b h, Zi⟩
theorem u69 {fu : Nat} {cp : CallP} (H : Hit cp (C69 fu).ct) : K69 fu cp := ⟨fun {a0 r} h => (C69 fu).at H a0 r h⟩
def infer_Node.m1 : LJ 1 24 Unit ((List T_Val) × Int) := ⟨fun r s e => [(10, er e 10), (14, .own (0, 14, 77) 0 s.1.length s.1.length), (40, er e 40), (41, er e 41), (42, .v (.int .i64 s.2))], fun r s h => [((0, 10, 0), hr h (0, 10, 0)), ((0, 14, 77), .sl true true 8 s.1.length (fm c_T_Val s.1))]⟩
set_option maxHeartbeats 20000000 in
open infer_Node in
theorem w37 (cp : CallP) (fu : Nat) (x1 : Int) (x2 : T_Setting) (x3 : List T_Val) (x4 : Int) (H1 : K66 fu cp) (H2 : K67 fu cp) (H3 : K68 fu cp) (H4 : K30 fu cp) (H5 : K69 fu cp) (H6 : K70 fu cp) : J (go Tryz.prog noC cp noI 0 [] d37 fu (finS Tryz.prog [.tmp 8, .tmp 9] [73, 32]) (bodyOf Tryz.f37) (initE 0 [.v (.int .i64 x1), .agg (c_T_Setting x2), .arr x3.length (fm c_T_Val x3), .v (.int .i64 x4)]) [] []) (infer_Node fu x1 x2 x3 x4) e37 := by
 unfold infer_Node e37
 conv => arg 1; simp only [bodyOf, Tryz.f37]
 have z0 := d37_at
 have z1 := SE
 exact Wk
theorem ok37 (fu : Nat) (x1 : Int) (x2 : T_Setting) (x3 : List T_Val) (x4 : Int) (r) (h : infer_Node fu x1 x2 x3 x4 = some r) : PureOK Tryz.prog 37 [.v (.int .i64 x1), .agg (c_T_Setting x2), .arr x3.length (fm c_T_Val x3), .v (.int .i64 x4)] (e37 r) := pureST mixed [(C66 fu).ct, (C67 fu).ct, (C68 fu).ct, (C30 fu).ct, (C69 fu).ct, (C70 fu).ct] (ids := [66, 67, 68, 30, 69, 70]) rfl (by decide) i37 (C := noC) (ci := fun cp => noI) (fun cp ok => noI_ok) (fun cp H => w37 cp fu x1 x2 x3 x4 (u66 H.1) (u67 H.2.1) (u68 H.2.2.1) (u30 H.2.2.2.1) (u69 H.2.2.2.2.1) (u70 H.2.2.2.2.2.1)) h
/-! 61: lattice/conv.number -/
open Aw (d61)
def d61_at := by have h := tabL Aw.d61.eq_1; simp only [AllAt, Nat.zero_add, Nat.reduceAdd] at h; exact h
theorem i61 : finfo Tryz.prog 61 d61 = some ⟨bodyOf Tryz.f61, [.tmp 6], [3]⟩ := finfo_at Tryz.func61 rfl (by kernel_rfl) (by kernel_rfl)
def e61 : Int → AV := fun r => .v (.int .i64 r)
set_option maxHeartbeats 20000000 in
theorem w61 (cp : CallP) (fu : Nat) (x1 : List Int) (x2 : Int) (x3 : Int)  : J (go Tryz.prog noC cp noI 0 [] d61 fu (fin Tryz.prog [.tmp 6] [3]) (bodyOf Tryz.f61) (initE 0 [.arr x1.length (lm (ik .i64) x1), .v (.int .i64 x2), .v (.int .i64 x3)]) [] []) (conv_number fu x1 x2 x3) e61 := by
 unfold conv_number e61
 conv => arg 1; simp only [bodyOf, Tryz.f61]
 have z0 := d61_at
 exact Wk
theorem ok61 (fu : Nat) (x1 : List Int) (x2 : Int) (x3 : Int) (r) (h : conv_number fu x1 x2 x3 = some r) : PureOK Tryz.prog 61 [.arr x1.length (lm (ik .i64) x1), .v (.int .i64 x2), .v (.int .i64 x3)] (e61 r) := pureT mixed [] (ids := []) rfl (by decide) i61 (C := noC) (ci := fun cp => noI) (fun cp ok => noI_ok) (fun cp H => w61 cp fu x1 x2 x3 ) h
/-! 32: lattice/conv.axisOf -/
open Aw (d32)
def d32_at := by have h := tabL Aw.d32.eq_1; simp only [AllAt, Nat.zero_add, Nat.reduceAdd] at h; exact h
theorem i32 : finfo Tryz.prog 32 d32 = some ⟨bodyOf Tryz.f32, [.cell 8 63, .tmp 9], [63, 32]⟩ := finfo_at Tryz.func32 rfl (by kernel_rfl) (by kernel_rfl)
def e32 : (T_conv_axis × Int) → AV := fun r => .tuple [.agg [.v (.int .i64 r.1.fsize), .v (.int .i64 r.1.fkernel), .v (.int .i64 r.1.fstride), .v (.int .i64 r.1.fdilation), .v (.int .i64 r.1.fahead), .v (.int .i64 r.1.fwindows)], .v (.int .i64 r.2)]
structure K61 (fu : Nat) (cp : CallP) : Prop where
 ap : ∀ {a0 : List Int} {a1 : Int} {a2 : Int} {r}, conv_number fu a0 a1 a2 = some r → cp 61 [.arr a0.length (lm (ik .i64) a0), .v (.int .i64 a1), .v (.int .i64 a2)] = some (.v (.int .i64 r))
noncomputable def C61 (fu : Nat) : Cm Tryz.prog ((List Int) × Int × Int) Int := ⟨61, fun t => [.arr t.1.length (lm (ik .i64) t.1), .v (.int .i64 t.2.1), .v (.int .i64 t.2.2)], fun t => conv_number fu t.1 t.2.1 t.2.2, e61, fun t b h => ok61 fu t.1 t.2.1 t.2.2  b h, Zi⟩
theorem u61 {fu : Nat} {cp : CallP} (H : Hit cp (C61 fu).ct) : K61 fu cp := ⟨fun {a0 a1 a2 r} h => (C61 fu).at H (a0, a1, a2) r h⟩
set_option maxHeartbeats 20000000 in
theorem w32 (cp : CallP) (fu : Nat) (x1 : T_Setting) (x2 : Int) (x3 : Int) (x4 : Int) (H1 : K61 fu cp) (H2 : K62 fu cp) : J (go Tryz.prog noC cp noI 0 [] d32 fu (fin Tryz.prog [.cell 8 63, .tmp 9] [63, 32]) (bodyOf Tryz.f32) (initE 0 [.agg (c_T_Setting x1), .v (.int .i64 x2), .v (.int .i64 x3), .v (.int .i64 x4)]) [] []) (conv_axisOf fu x1 x2 x3 x4) e32 := by
 unfold conv_axisOf e32
 conv => arg 1; simp only [bodyOf, Tryz.f32]
 have z0 := d32_at
 have z1 := RL
 exact Wk
theorem ok32 (fu : Nat) (x1 : T_Setting) (x2 : Int) (x3 : Int) (x4 : Int) (r) (h : conv_axisOf fu x1 x2 x3 x4 = some r) : PureOK Tryz.prog 32 [.agg (c_T_Setting x1), .v (.int .i64 x2), .v (.int .i64 x3), .v (.int .i64 x4)] (e32 r) := pureT mixed [(C61 fu).ct, (C62 fu).ct] (ids := [61, 62]) rfl (by decide) i32 (C := noC) (ci := fun cp => noI) (fun cp ok => noI_ok) (fun cp H => w32 cp fu x1 x2 x3 x4 (u61 H.1) (u62 H.2.1)) h
/-! 39: lattice/tens.New -/
open Aw (d39)
def d39_at := by have h := tabL Aw.d39.eq_1; simp only [AllAt, Nat.zero_add, Nat.reduceAdd] at h; exact h
theorem i39 : finfo Tryz.prog 39 d39 = some ⟨bodyOf Tryz.f39, [.cell 4 28, .tmp 5], [28, 32]⟩ := finfo_at Tryz.func39 rfl (by kernel_rfl) (by kernel_rfl)
def e39 : (T_Tensor × Int) → AV := fun r => .tuple [.agg [.v (.int .i64 r.1.fType), .fresh 1 r.1.fDims.length (lm (ik .i64) r.1.fDims), .fresh 1 r.1.fF.length (lm (ik .u32) r.1.fF), .fresh 1 r.1.fI.length (lm (ik .i64) r.1.fI), .fresh 1 r.1.fB.length (lm (bk) r.1.fB)], .v (.int .i64 r.2)]
set_option maxHeartbeats 20000000 in
theorem w39 (cp : CallP) (fu : Nat) (x1 : Int) (x2 : List Int) (H1 : K63 fu cp) (H2 : K30 fu cp) (H3 : K70 fu cp) : J (go Tryz.prog noC cp noI 0 [] d39 fu (fin Tryz.prog [.cell 4 28, .tmp 5] [28, 32]) (bodyOf Tryz.f39) (initE 0 [.v (.int .i64 x1), .arr x2.length (lm (ik .i64) x2)]) [] []) (tens_New fu x1 x2) e39 := by
 unfold tens_New e39
 conv => arg 1; simp only [bodyOf, Tryz.f39]
 have z0 := d39_at
 exact Wk
theorem ok39 (fu : Nat) (x1 : Int) (x2 : List Int) (r) (h : tens_New fu x1 x2 = some r) : PureOK Tryz.prog 39 [.v (.int .i64 x1), .arr x2.length (lm (ik .i64) x2)] (e39 r) := pureT mixed [(C63 fu).ct, (C30 fu).ct, (C70 fu).ct] (ids := [63, 30, 70]) rfl (by decide) i39 (C := noC) (ci := fun cp => noI) (fun cp ok => noI_ok) (fun cp H => w39 cp fu x1 x2 (u63 H.1) (u30 H.2.1) (u70 H.2.2.1)) h
/-! 71: lattice/shape.strides -/
open Aw (d71)
def d71_at := by have h := tabL Aw.d71.eq_1; simp only [AllAt, Nat.zero_add, Nat.reduceAdd] at h; exact h
theorem i71 : finfo Tryz.prog 71 d71 = some ⟨bodyOf Tryz.f71, [.tmp 2], [22]⟩ := finfo_at Tryz.func71 rfl (by kernel_rfl) (by kernel_rfl)
def e71 : (List Int) → AV := fun r => .fresh 1 r.length (lm (ik .i64) r)
def shape_strides.m1 : LJ 1 8 Unit ((List Int) × Int × Int) := ⟨fun r s e => [(0, er e 0), (3, .own (0, 8, 0) 0 s.1.length s.1.length), (4, .v (.int .i64 s.2.1)), (5, .v (.int .i64 s.2.2))], fun r s h => [((0, 8, 0), .sl true true 1 s.1.length (lm (ik .i64) s.1))]⟩
set_option maxHeartbeats 20000000 in
open shape_strides in
theorem w71 (cp : CallP) (fu : Nat) (x1 : List Int)  : J (go Tryz.prog noC cp noI 0 [] d71 fu (fin Tryz.prog [.tmp 2] [22]) (bodyOf Tryz.f71) (initE 0 [.arr x1.length (lm (ik .i64) x1)]) [] []) (shape_strides fu x1) e71 := by
 unfold shape_strides e71
 conv => arg 1; simp only [bodyOf, Tryz.f71]
 have z0 := d71_at
 exact Wk
theorem ok71 (fu : Nat) (x1 : List Int) (r) (h : shape_strides fu x1 = some r) : PureOK Tryz.prog 71 [.arr x1.length (lm (ik .i64) x1)] (e71 r) := pureT mixed [] (ids := []) rfl (by decide) i71 (C := noC) (ci := fun cp => noI) (fun cp ok => noI_ok) (fun cp H => w71 cp fu x1 ) h
/-! 40: lattice/shape.Index -/
open Aw (d40)
def d40_at := by have h := tabL Aw.d40.eq_1; simp only [AllAt, Nat.zero_add, Nat.reduceAdd] at h; exact h
theorem i40 : finfo Tryz.prog 40 d40 = some ⟨bodyOf Tryz.f40, [.tmp 4, .tmp 5], [22, 32]⟩ := finfo_at Tryz.func40 rfl (by kernel_rfl) (by kernel_rfl)
def e40 : ((List Int) × Int) → AV := fun r => .tuple [.fresh 1 r.1.length (lm (ik .i64) r.1), .v (.int .i64 r.2)]
structure K71 (fu : Nat) (cp : CallP) : Prop where
 ap : ∀ {a0 : List Int} {r}, shape_strides fu a0 = some r → cp 71 [.arr a0.length (lm (ik .i64) a0)] = some (.fresh 1 r.length (lm (ik .i64) r))
noncomputable def C71 (fu : Nat) : Cm Tryz.prog (List Int) (List Int) := ⟨71, fun t => [.arr t.length (lm (ik .i64) t)], fun t => shape_strides fu t, e71, fun t b h => ok71 fu t  b h, Zi⟩
theorem u71 {fu : Nat} {cp : CallP} (H : Hit cp (C71 fu).ct) : K71 fu cp := ⟨fun {a0 r} h => (C71 fu).at H a0 r h⟩
def shape_Index.m1 : LJ 1 16 Unit ((List Int) × Int × Int) := ⟨fun r s e => [(1, .v (.int .i64 s.2.1)), (8, .own (0, 28, 0) 0 s.1.length s.1.length), (30, er e 30), (31, er e 31), (32, .v (.int .i64 s.2.2))], fun r s h => [((0, 28, 0), .sl true true 1 s.1.length (lm (ik .i64) s.1)), ((0, 30, 0), hr h (0, 30, 0))]⟩
def shape_Index.j1 : LJ 1 12 Unit Unit := ⟨fun r t e => [(0, er e 0), (1, er e 1)], fun r t h => []⟩
set_option maxHeartbeats 20000000 in
open shape_Index in
theorem w40 (cp : CallP) (fu : Nat) (x1 : List Int) (x2 : Int) (H1 : K30 fu cp) (H2 : K71 fu cp) : J (go Tryz.prog noC cp noI 0 [] d40 fu (fin Tryz.prog [.tmp 4, .tmp 5] [22, 32]) (bodyOf Tryz.f40) (initE 0 [.arr x1.length (lm (ik .i64) x1), .v (.int .i64 x2)]) [] []) (shape_Index fu x1 x2) e40 := by
 unfold shape_Index e40
 conv => arg 1; simp only [bodyOf, Tryz.f40]
 have z0 := d40_at
 exact Wk
theorem ok40 (fu : Nat) (x1 : List Int) (x2 : Int) (r) (h : shape_Index fu x1 x2 = some r) : PureOK Tryz.prog 40 [.arr x1.length (lm (ik .i64) x1), .v (.int .i64 x2)] (e40 r) := pureT mixed [(C30 fu).ct, (C71 fu).ct] (ids := [30, 71]) rfl (by decide) i40 (C := noC) (ci := fun cp => noI) (fun cp ok => noI_ok) (fun cp H => w40 cp fu x1 x2 (u30 H.1) (u71 H.2.1)) h
/-! 33: (lattice/conv.axis).at -/
open Aw (d33)
def d33_at := by have h := tabL Aw.d33.eq_1; simp only [AllAt, Nat.zero_add, Nat.reduceAdd] at h; exact h
theorem i33 : finfo Tryz.prog 33 d33 = some ⟨bodyOf Tryz.f33, [.tmp 6, .tmp 7], [3, 4]⟩ := finfo_at Tryz.func33 rfl (by kernel_rfl) (by kernel_rfl)
def e33 : (Int × Bool) → AV := fun r => .tuple [.v (.int .i64 r.1), .v (.bool r.2)]
set_option maxHeartbeats 20000000 in
theorem w33 (cp : CallP) (fu : Nat) (x1 : T_conv_axis) (x2 : Int) (x3 : Int)  : J (go Tryz.prog noC cp noI 0 [] d33 fu (fin Tryz.prog [.tmp 6, .tmp 7] [3, 4]) (bodyOf Tryz.f33) (initE 0 [.agg (c_T_conv_axis x1), .v (.int .i64 x2), .v (.int .i64 x3)]) [] []) (conv_axis_at fu x1 x2 x3) e33 := by
 unfold conv_axis_at e33
 conv => arg 1; simp only [bodyOf, Tryz.f33]
 have z0 := d33_at
 exact Wk
theorem ok33 (fu : Nat) (x1 : T_conv_axis) (x2 : Int) (x3 : Int) (r) (h : conv_axis_at fu x1 x2 x3 = some r) : PureOK Tryz.prog 33 [.agg (c_T_conv_axis x1), .v (.int .i64 x2), .v (.int .i64 x3)] (e33 r) := pureT mixed [] (ids := []) rfl (by decide) i33 (C := noC) (ci := fun cp => noI) (fun cp ok => noI_ok) (fun cp H => w33 cp fu x1 x2 x3 ) h
/-! 104: lattice/soft.open -/
open Aw (d104)
def d104_at := by have h := tabL Aw.d104.eq_1; simp only [AllAt, Nat.zero_add, Nat.reduceAdd] at h; exact h
theorem i104 : finfo Tryz.prog 104 d104 = some ⟨bodyOf Tryz.f104, [.cell 2 119], [119]⟩ := finfo_at Tryz.func104 rfl (by kernel_rfl) (by kernel_rfl)
def e104 : T_soft_number → AV := fun r => .agg [.v (.bool r.fneg), .v (.bool r.fnan), .v (.bool r.finf), .v (.int .i64 r.fexp), .v (.int .u64 r.fsig)]
set_option maxHeartbeats 20000000 in
theorem w104 (cp : CallP) (fu : Nat) (x1 : Int)  : J (go Tryz.prog noC cp noI 0 [] d104 fu (fin Tryz.prog [.cell 2 119] [119]) (bodyOf Tryz.f104) (initE 0 [.v (.int .u32 x1)]) [] []) (soft_open fu x1) e104 := by
 unfold soft_open e104
 conv => arg 1; simp only [bodyOf, Tryz.f104]
 have z0 := d104_at
 exact Wk
theorem ok104 (fu : Nat) (x1 : Int) (r) (h : soft_open fu x1 = some r) : PureOK Tryz.prog 104 [.v (.int .u32 x1)] (e104 r) := pureT mixed [] (ids := []) rfl (by decide) i104 (C := noC) (ci := fun cp => noI) (fun cp ok => noI_ok) (fun cp H => w104 cp fu x1 ) h
/-! 107: lattice/soft.sign -/
open Aw (d107)
def d107_at := by have h := tabL Aw.d107.eq_1; simp only [AllAt, Nat.zero_add, Nat.reduceAdd] at h; exact h
theorem i107 : finfo Tryz.prog 107 d107 = some ⟨bodyOf Tryz.f107, [.tmp 2], [23]⟩ := finfo_at Tryz.func107 rfl (by kernel_rfl) (by kernel_rfl)
def e107 : Int → AV := fun r => .v (.int .u32 r)
set_option maxHeartbeats 20000000 in
theorem w107 (cp : CallP) (fu : Nat) (x1 : Bool)  : J (go Tryz.prog noC cp noI 0 [] d107 fu (fin Tryz.prog [.tmp 2] [23]) (bodyOf Tryz.f107) (initE 0 [.v (.bool x1)]) [] []) (soft_sign fu x1) e107 := by
 unfold soft_sign e107
 conv => arg 1; simp only [bodyOf, Tryz.f107]
 have z0 := d107_at
 exact Wk
theorem ok107 (fu : Nat) (x1 : Bool) (r) (h : soft_sign fu x1 = some r) : PureOK Tryz.prog 107 [.v (.bool x1)] (e107 r) := pureT mixed [] (ids := []) rfl (by decide) i107 (C := noC) (ci := fun cp => noI) (fun cp ok => noI_ok) (fun cp H => w107 cp fu x1 ) h
/-! 144: math/bits.Len64 -/
open Aw (d144)
def d144_at := by have h := tabL Aw.d144.eq_1; simp only [AllAt, Nat.zero_add, Nat.reduceAdd] at h; exact h
theorem i144 : finfo Tryz.prog 144 d144 = some ⟨bodyOf Tryz.f144, [.tmp 2], [3]⟩ := finfo_at Tryz.func144 rfl (by kernel_rfl) (by kernel_rfl)
def e144 : Int → AV := fun r => .v (.int .i64 r)
def math_bits_Len64.j2 : LJ 2 14 Unit (Int × Int) := ⟨fun r t e => [(0, .v (.int .u64 t.1)), (2, .v (.int .i64 t.2))], fun r t h => []⟩
def math_bits_Len64.j1 : LJ 1 8 Unit (Int × Int) := ⟨fun r t e => [(0, .v (.int .u64 t.1)), (2, .v (.int .i64 t.2))], fun r t h => []⟩
set_option maxHeartbeats 20000000 in
open math_bits_Len64 in
theorem w144 (cp : CallP) (fu : Nat) (x1 : Int)  : J (go Tryz.prog noC cp noI 0 [] d144 fu (fin Tryz.prog [.tmp 2] [3]) (bodyOf Tryz.f144) (initE 0 [.v (.int .u64 x1)]) [] []) (math_bits_Len64 fu x1) e144 := by
 unfold math_bits_Len64 e144
 conv => arg 1; simp only [bodyOf, Tryz.f144]
 have z0 := d144_at
 exact Wk
theorem ok144 (fu : Nat) (x1 : Int) (r) (h : math_bits_Len64 fu x1 = some r) : PureOK Tryz.prog 144 [.v (.int .u64 x1)] (e144 r) := pureT mixed [] (ids := []) rfl (by decide) i144 (C := noC) (ci := fun cp => noI) (fun cp ok => noI_ok) (fun cp H => w144 cp fu x1 ) h
/-! 147: lattice/soft.outwards -/
def d147 : List (Nat × List Nat) := [(0, [4]), (0, []), (0, [0, 1, 5, 6, 7, 8, 9, 10, 11, 12, 13, 14, 15, 16, 17])]
def d147_at := by have h := tabL d147.eq_1; simp only [AllAt, Nat.zero_add, Nat.reduceAdd] at h; exact h
theorem i147 : finfo Tryz.prog 147 d147 = some ⟨bodyOf Tryz.f147, [.tmp 4], [4]⟩ := finfo_at Tryz.func147 rfl (by kernel_rfl) (by kernel_rfl)
def e147 : Bool → AV := fun r => .v (.bool r)
set_option maxHeartbeats 20000000 in
theorem w147 (cp : CallP) (fu : Nat) (x1 : Int) (x2 : Bool)  : J (go Tryz.prog noC cp noI 0 [] d147 fu (fin Tryz.prog [.tmp 4] [4]) (bodyOf Tryz.f147) (initE 0 [.v (.int .i64 x1), .v (.bool x2)]) [] []) (soft_outwards fu x1 x2) e147 := by
 unfold soft_outwards e147
 conv => arg 1; simp only [bodyOf, Tryz.f147]
 have z0 := d147_at
 exact Wk
theorem ok147 (fu : Nat) (x1 : Int) (x2 : Bool) (r) (h : soft_outwards fu x1 x2 = some r) : PureOK Tryz.prog 147 [.v (.int .i64 x1), .v (.bool x2)] (e147 r) := pureT mixed [] (ids := []) rfl (by decide) i147 (C := noC) (ci := fun cp => noI) (fun cp ok => noI_ok) (fun cp H => w147 cp fu x1 x2 ) h
/-! 145: lattice/soft.tiny -/
def d145 : List (Nat × List Nat) := [(0, [4]), (0, []), (0, [0, 5, 6]), (0, []), (0, [8, 9, 10]), (0, []), (0, [1, 11, 12])]
def d145_at := by have h := tabL d145.eq_1; simp only [AllAt, Nat.zero_add, Nat.reduceAdd] at h; exact h
theorem i145 : finfo Tryz.prog 145 d145 = some ⟨bodyOf Tryz.f145, [.tmp 4], [23]⟩ := finfo_at Tryz.func145 rfl (by kernel_rfl) (by kernel_rfl)
def e145 : Int → AV := fun r => .v (.int .u32 r)
structure K147 (fu : Nat) (cp : CallP) : Prop where
 ap : ∀ {a0 : Int} {a1 : Bool} {r}, soft_outwards fu a0 a1 = some r → cp 147 [.v (.int .i64 a0), .v (.bool a1)] = some (.v (.bool r))
noncomputable def C147 (fu : Nat) : Cm Tryz.prog (Int × Bool) Bool := ⟨147, fun t => [.v (.int .i64 t.1), .v (.bool t.2)], fun t => soft_outwards fu t.1 t.2, e147, fun t b h => ok147 fu t.1 t.2  b h, Zi⟩
theorem u147 {fu : Nat} {cp : CallP} (H : Hit cp (C147 fu).ct) : K147 fu cp := ⟨fun {a0 a1 r} h => (C147 fu).at H (a0, a1) r h⟩
structure K107 (fu : Nat) (cp : CallP) : Prop where
 ap : ∀ {a0 : Bool} {r}, soft_sign fu a0 = some r → cp 107 [.v (.bool a0)] = some (.v (.int .u32 r))
noncomputable def C107 (fu : Nat) : Cm Tryz.prog Bool Int := ⟨107, fun t => [.v (.bool t)], fun t => soft_sign fu t, e107, fun t b h => ok107 fu t  b h, Zi⟩
theorem u107 {fu : Nat} {cp : CallP} (H : Hit cp (C107 fu).ct) : K107 fu cp := ⟨fun {a0 r} h => (C107 fu).at H a0 r h⟩
set_option maxHeartbeats 20000000 in
theorem w145 (cp : CallP) (fu : Nat) (x1 : Int) (x2 : Bool) (H1 : K147 fu cp) (H2 : K107 fu cp) : J (go Tryz.prog noC cp noI 0 [] d145 fu (fin Tryz.prog [.tmp 4] [23]) (bodyOf Tryz.f145) (initE 0 [.v (.int .i64 x1), .v (.bool x2)]) [] []) (soft_tiny fu x1 x2) e145 := by
 unfold soft_tiny e145
 conv => arg 1; simp only [bodyOf, Tryz.f145]
 have z0 := d145_at
 exact Wk
theorem ok145 (fu : Nat) (x1 : Int) (x2 : Bool) (r) (h : soft_tiny fu x1 x2 = some r) : PureOK Tryz.prog 145 [.v (.int .i64 x1), .v (.bool x2)] (e145 r) := pureT mixed [(C147 fu).ct, (C107 fu).ct] (ids := [147, 107]) rfl (by decide) i145 (C := noC) (ci := fun cp => noI) (fun cp ok => noI_ok) (fun cp H => w145 cp fu x1 x2 (u147 H.1) (u107 H.2.1)) h
/-! 146: lattice/soft.huge -/
def d146 : List (Nat × List Nat) := [(0, [4]), (0, []), (0, [0, 5, 6, 7, 8, 9, 10, 11, 12, 13, 14, 15]), (0, []), (0, [17, 18, 19]), (0, []), (0, [1, 20, 21, 22])]
def d146_at := by have h := tabL d146.eq_1; simp only [AllAt, Nat.zero_add, Nat.reduceAdd] at h; exact h
theorem i146 : finfo Tryz.prog 146 d146 = some ⟨bodyOf Tryz.f146, [.tmp 4], [23]⟩ := finfo_at Tryz.func146 rfl (by kernel_rfl) (by kernel_rfl)
def e146 : Int → AV := fun r => .v (.int .u32 r)
def soft_huge.j1 : LJ 1 6 Unit Unit := ⟨fun r t e => [(1, er e 1)], fun r t h => []⟩
set_option maxHeartbeats 20000000 in
open soft_huge in
theorem w146 (cp : CallP) (fu : Nat) (x1 : Int) (x2 : Bool) (H1 : K107 fu cp) : J (go Tryz.prog noC cp noI 0 [] d146 fu (fin Tryz.prog [.tmp 4] [23]) (bodyOf Tryz.f146) (initE 0 [.v (.int .i64 x1), .v (.bool x2)]) [] []) (soft_huge fu x1 x2) e146 := by
 unfold soft_huge e146
 conv => arg 1; simp only [bodyOf, Tryz.f146]
 have z0 := d146_at
 exact Wk
theorem ok146 (fu : Nat) (x1 : Int) (x2 : Bool) (r) (h : soft_huge fu x1 x2 = some r) : PureOK Tryz.prog 146 [.v (.int .i64 x1), .v (.bool x2)] (e146 r) := pureT mixed [(C107 fu).ct] (ids := [107]) rfl (by decide) i146 (C := noC) (ci := fun cp => noI) (fun cp ok => noI_ok) (fun cp H => w146 cp fu x1 x2 (u107 H.1)) h
/-! 106: lattice/soft.Round -/
open Aw (d106)
def d106_at := by have h := tabL Aw.d106.eq_1; simp only [AllAt, Nat.zero_add, Nat.reduceAdd] at h; exact h
theorem i106 : finfo Tryz.prog 106 d106 = some ⟨bodyOf Tryz.f106, [.tmp 10], [23]⟩ := finfo_at Tryz.func106 rfl (by kernel_rfl) (by kernel_rfl)
def e106 : Int → AV := fun r => .v (.int .u32 r)
structure K144 (fu : Nat) (cp : CallP) : Prop where
 ap : ∀ {a0 : Int} {r}, math_bits_Len64 fu a0 = some r → cp 144 [.v (.int .u64 a0)] = some (.v (.int .i64 r))
noncomputable def C144 (fu : Nat) : Cm Tryz.prog Int Int := ⟨144, fun t => [.v (.int .u64 t)], fun t => math_bits_Len64 fu t, e144, fun t b h => ok144 fu t  b h, Zi⟩
theorem u144 {fu : Nat} {cp : CallP} (H : Hit cp (C144 fu).ct) : K144 fu cp := ⟨fun {a0 r} h => (C144 fu).at H a0 r h⟩
structure K145 (fu : Nat) (cp : CallP) : Prop where
 ap : ∀ {a0 : Int} {a1 : Bool} {r}, soft_tiny fu a0 a1 = some r → cp 145 [.v (.int .i64 a0), .v (.bool a1)] = some (.v (.int .u32 r))
noncomputable def C145 (fu : Nat) : Cm Tryz.prog (Int × Bool) Int := ⟨145, fun t => [.v (.int .i64 t.1), .v (.bool t.2)], fun t => soft_tiny fu t.1 t.2, e145, fun t b h => ok145 fu t.1 t.2  b h, Zi⟩
theorem u145 {fu : Nat} {cp : CallP} (H : Hit cp (C145 fu).ct) : K145 fu cp := ⟨fun {a0 a1 r} h => (C145 fu).at H (a0, a1) r h⟩
structure K146 (fu : Nat) (cp : CallP) : Prop where
 ap : ∀ {a0 : Int} {a1 : Bool} {r}, soft_huge fu a0 a1 = some r → cp 146 [.v (.int .i64 a0), .v (.bool a1)] = some (.v (.int .u32 r))
noncomputable def C146 (fu : Nat) : Cm Tryz.prog (Int × Bool) Int := ⟨146, fun t => [.v (.int .i64 t.1), .v (.bool t.2)], fun t => soft_huge fu t.1 t.2, e146, fun t b h => ok146 fu t.1 t.2  b h, Zi⟩
theorem u146 {fu : Nat} {cp : CallP} (H : Hit cp (C146 fu).ct) : K146 fu cp := ⟨fun {a0 a1 r} h => (C146 fu).at H (a0, a1) r h⟩
def soft_Round.j3 : LJ 3 56 Unit Int := ⟨fun r t e => [(0, er e 0), (1, er e 1), (2, er e 2), (12, er e 12), (13, .v (.int .u64 t))], fun r t h => []⟩
def soft_Round.j4 : LJ 4 30 Unit Bool := ⟨fun r t e => [(0, er e 0), (1, er e 1), (2, er e 2), (3, er e 3), (4, er e 4), (11, er e 11), (12, er e 12), (13, er e 13), (14, .v (.bool t)), (15, er e 15), (16, er e 16), (17, er e 17), (18, er e 18)], fun r t h => []⟩
def soft_Round.j2 : LJ 2 42 Unit (Int × Bool × Bool × Bool) := ⟨fun r t e => [(0, er e 0), (1, er e 1), (2, er e 2), (12, er e 12), (13, .v (.int .u64 t.1)), (14, .v (.bool t.2.1)), (15, .v (.bool t.2.2.1)), (16, .v (.bool t.2.2.2))], fun r t h => []⟩
def soft_Round.j1 : LJ 1 16 Unit Unit := ⟨fun r t e => [(0, er e 0), (1, er e 1), (2, er e 2), (3, er e 3), (4, er e 4), (11, er e 11)], fun r t h => []⟩
set_option maxHeartbeats 20000000 in
open soft_Round in
theorem w106 (cp : CallP) (fu : Nat) (x1 : Int) (x2 : Bool) (x3 : Int) (x4 : Int) (x5 : Bool) (H1 : K144 fu cp) (H2 : K145 fu cp) (H3 : K107 fu cp) (H4 : K146 fu cp) : J (go Tryz.prog noC cp noI 0 [] d106 fu (fin Tryz.prog [.tmp 10] [23]) (bodyOf Tryz.f106) (initE 0 [.v (.int .i64 x1), .v (.bool x2), .v (.int .i64 x3), .v (.int .u64 x4), .v (.bool x5)]) [] []) (soft_Round fu x1 x2 x3 x4 x5) e106 := by
 unfold soft_Round e106
 conv => arg 1; simp only [bodyOf, Tryz.f106]
 have z0 := d106_at
 exact Wk
theorem ok106 (fu : Nat) (x1 : Int) (x2 : Bool) (x3 : Int) (x4 : Int) (x5 : Bool) (r) (h : soft_Round fu x1 x2 x3 x4 x5 = some r) : PureOK Tryz.prog 106 [.v (.int .i64 x1), .v (.bool x2), .v (.int .i64 x3), .v (.int .u64 x4), .v (.bool x5)] (e106 r) := pureT mixed [(C144 fu).ct, (C145 fu).ct, (C107 fu).ct, (C146 fu).ct] (ids := [144, 145, 107, 146]) rfl (by decide) i106 (C := noC) (ci := fun cp => noI) (fun cp ok => noI_ok) (fun cp H => w106 cp fu x1 x2 x3 x4 x5 (u144 H.1) (u145 H.2.1) (u107 H.2.2.1) (u146 H.2.2.2.1)) h
/-! 73: lattice/soft.MulBy -/
open Aw (d73)
def d73_at := by have h := tabL Aw.d73.eq_1; simp only [AllAt, Nat.zero_add, Nat.reduceAdd] at h; exact h
theorem i73 : finfo Tryz.prog 73 d73 = some ⟨bodyOf Tryz.f73, [.tmp 6], [23]⟩ := finfo_at Tryz.func73 rfl (by kernel_rfl) (by kernel_rfl)
def e73 : Int → AV := fun r => .v (.int .u32 r)
structure K104 (fu : Nat) (cp : CallP) : Prop where
 ap : ∀ {a0 : Int} {r}, soft_open fu a0 = some r → cp 104 [.v (.int .u32 a0)] = some (.agg [.v (.bool r.fneg), .v (.bool r.fnan), .v (.bool r.finf), .v (.int .i64 r.fexp), .v (.int .u64 r.fsig)])
noncomputable def C104 (fu : Nat) : Cm Tryz.prog Int T_soft_number := ⟨104, fun t => [.v (.int .u32 t)], fun t => soft_open fu t, e104, fun t b h => ok104 fu t  b h, Zi⟩
theorem u104 {fu : Nat} {cp : CallP} (H : Hit cp (C104 fu).ct) : K104 fu cp := ⟨fun {a0 r} h => (C104 fu).at H a0 r h⟩
structure K106 (fu : Nat) (cp : CallP) : Prop where
 ap : ∀ {a0 : Int} {a1 : Bool} {a2 : Int} {a3 : Int} {a4 : Bool} {r}, soft_Round fu a0 a1 a2 a3 a4 = some r → cp 106 [.v (.int .i64 a0), .v (.bool a1), .v (.int .i64 a2), .v (.int .u64 a3), .v (.bool a4)] = some (.v (.int .u32 r))
noncomputable def C106 (fu : Nat) : Cm Tryz.prog (Int × Bool × Int × Int × Bool) Int := ⟨106, fun t => [.v (.int .i64 t.1), .v (.bool t.2.1), .v (.int .i64 t.2.2.1), .v (.int .u64 t.2.2.2.1), .v (.bool t.2.2.2.2)], fun t => soft_Round fu t.1 t.2.1 t.2.2.1 t.2.2.2.1 t.2.2.2.2, e106, fun t b h => ok106 fu t.1 t.2.1 t.2.2.1 t.2.2.2.1 t.2.2.2.2  b h, Zi⟩
theorem u106 {fu : Nat} {cp : CallP} (H : Hit cp (C106 fu).ct) : K106 fu cp := ⟨fun {a0 a1 a2 a3 a4 r} h => (C106 fu).at H (a0, a1, a2, a3, a4) r h⟩
def soft_MulBy.j1 : LJ 1 14 Unit Unit := ⟨fun r t e => [(0, er e 0), (7, er e 7), (8, er e 8), (9, er e 9)], fun r t h => [((0, 7, 0), bs (bs (hr h (0, 7, 0)) 1 (.v (.bool false))) 2 (.v (.bool false))), ((0, 8, 0), bs (bs (hr h (0, 8, 0)) 1 (.v (.bool false))) 2 (.v (.bool false)))]⟩
set_option maxHeartbeats 20000000 in
open soft_MulBy in
theorem w73 (cp : CallP) (fu : Nat) (x1 : Int) (x2 : Int) (x3 : Int) (H1 : K104 fu cp) (H2 : K107 fu cp) (H3 : K106 fu cp) : J (go Tryz.prog noC cp noI 0 [] d73 fu (fin Tryz.prog [.tmp 6] [23]) (bodyOf Tryz.f73) (initE 0 [.v (.int .i64 x1), .v (.int .u32 x2), .v (.int .u32 x3)]) [] []) (soft_MulBy fu x1 x2 x3) e73 := by
 unfold soft_MulBy e73
 conv => arg 1; simp only [bodyOf, Tryz.f73]
 have z0 := d73_at
 exact Wk
theorem ok73 (fu : Nat) (x1 : Int) (x2 : Int) (x3 : Int) (r) (h : soft_MulBy fu x1 x2 x3 = some r) : PureOK Tryz.prog 73 [.v (.int .i64 x1), .v (.int .u32 x2), .v (.int .u32 x3)] (e73 r) := pureT mixed [(C104 fu).ct, (C107 fu).ct, (C106 fu).ct] (ids := [104, 107, 106]) rfl (by decide) i73 (C := noC) (ci := fun cp => noI) (fun cp ok => noI_ok) (fun cp H => w73 cp fu x1 x2 x3 (u104 H.1) (u107 H.2.1) (u106 H.2.2.1)) h
/-! 42: lattice/soft.Mul -/
open Aw (d42)
def d42_at := by have h := tabL Aw.d42.eq_1; simp only [AllAt, Nat.zero_add, Nat.reduceAdd] at h; exact h
theorem i42 : finfo Tryz.prog 42 d42 = some ⟨bodyOf Tryz.f42, [.tmp 4], [23]⟩ := finfo_at Tryz.func42 rfl (by kernel_rfl) (by kernel_rfl)
def e42 : Int → AV := fun r => .v (.int .u32 r)
structure K73 (fu : Nat) (cp : CallP) : Prop where
 ap : ∀ {a0 : Int} {a1 : Int} {a2 : Int} {r}, soft_MulBy fu a0 a1 a2 = some r → cp 73 [.v (.int .i64 a0), .v (.int .u32 a1), .v (.int .u32 a2)] = some (.v (.int .u32 r))
noncomputable def C73 (fu : Nat) : Cm Tryz.prog (Int × Int × Int) Int := ⟨73, fun t => [.v (.int .i64 t.1), .v (.int .u32 t.2.1), .v (.int .u32 t.2.2)], fun t => soft_MulBy fu t.1 t.2.1 t.2.2, e73, fun t b h => ok73 fu t.1 t.2.1 t.2.2  b h, Zi⟩
theorem u73 {fu : Nat} {cp : CallP} (H : Hit cp (C73 fu).ct) : K73 fu cp := ⟨fun {a0 a1 a2 r} h => (C73 fu).at H (a0, a1, a2) r h⟩
set_option maxHeartbeats 20000000 in
theorem w42 (cp : CallP) (fu : Nat) (x1 : Int) (x2 : Int) (H1 : K73 fu cp) : J (go Tryz.prog noC cp noI 0 [] d42 fu (fin Tryz.prog [.tmp 4] [23]) (bodyOf Tryz.f42) (initE 0 [.v (.int .u32 x1), .v (.int .u32 x2)]) [] []) (soft_Mul fu x1 x2) e42 := by
 unfold soft_Mul e42
 conv => arg 1; simp only [bodyOf, Tryz.f42]
 have z0 := d42_at
 exact Wk
theorem ok42 (fu : Nat) (x1 : Int) (x2 : Int) (r) (h : soft_Mul fu x1 x2 = some r) : PureOK Tryz.prog 42 [.v (.int .u32 x1), .v (.int .u32 x2)] (e42 r) := pureT mixed [(C73 fu).ct] (ids := [73]) rfl (by decide) i42 (C := noC) (ci := fun cp => noI) (fun cp ok => noI_ok) (fun cp H => w42 cp fu x1 x2 (u73 H.1)) h
/-! 105: lattice/soft.nought -/
def d105 : List (Nat × List Nat) := [(0, [2]), (0, []), (0, [0, 3, 4, 5])]
def d105_at := by have h := tabL d105.eq_1; simp only [AllAt, Nat.zero_add, Nat.reduceAdd] at h; exact h
theorem i105 : finfo Tryz.prog 105 d105 = some ⟨bodyOf Tryz.f105, [.tmp 2], [23]⟩ := finfo_at Tryz.func105 rfl (by kernel_rfl) (by kernel_rfl)
def e105 : Int → AV := fun r => .v (.int .u32 r)
set_option maxHeartbeats 20000000 in
theorem w105 (cp : CallP) (fu : Nat) (x1 : Int) (H1 : K107 fu cp) : J (go Tryz.prog noC cp noI 0 [] d105 fu (fin Tryz.prog [.tmp 2] [23]) (bodyOf Tryz.f105) (initE 0 [.v (.int .i64 x1)]) [] []) (soft_nought fu x1) e105 := by
 unfold soft_nought e105
 conv => arg 1; simp only [bodyOf, Tryz.f105]
 have z0 := d105_at
 exact Wk
theorem ok105 (fu : Nat) (x1 : Int) (r) (h : soft_nought fu x1 = some r) : PureOK Tryz.prog 105 [.v (.int .i64 x1)] (e105 r) := pureT mixed [(C107 fu).ct] (ids := [107]) rfl (by decide) i105 (C := noC) (ci := fun cp => noI) (fun cp ok => noI_ok) (fun cp H => w105 cp fu x1 (u107 H.1)) h
/-! 72: lattice/soft.AddBy -/
open Aw (d72)
def d72_at := by have h := tabL Aw.d72.eq_1; simp only [AllAt, Nat.zero_add, Nat.reduceAdd] at h; exact h
theorem i72 : finfo Tryz.prog 72 d72 = some ⟨bodyOf Tryz.f72, [.tmp 6], [23]⟩ := finfo_at Tryz.func72 rfl (by kernel_rfl) (by kernel_rfl)
def e72 : Int → AV := fun r => .v (.int .u32 r)
structure K105 (fu : Nat) (cp : CallP) : Prop where
 ap : ∀ {a0 : Int} {r}, soft_nought fu a0 = some r → cp 105 [.v (.int .i64 a0)] = some (.v (.int .u32 r))
noncomputable def C105 (fu : Nat) : Cm Tryz.prog Int Int := ⟨105, fun t => [.v (.int .i64 t)], fun t => soft_nought fu t, e105, fun t b h => ok105 fu t  b h, Zi⟩
theorem u105 {fu : Nat} {cp : CallP} (H : Hit cp (C105 fu).ct) : K105 fu cp := ⟨fun {a0 r} h => (C105 fu).at H a0 r h⟩
def soft_AddBy.j3 : LJ 3 3 Unit (Int × Int × Int × Bool) := ⟨fun r t e => [(0, er e 0), (7, er e 7), (8, er e 8), (9, er e 9), (10, .v (.int .i64 t.1)), (11, .v (.int .u64 t.2.1)), (12, .v (.int .u64 t.2.2.1)), (13, .v (.bool t.2.2.2))], fun r t h => [((0, 7, 0), hr h (0, 7, 0)), ((0, 8, 0), hr h (0, 8, 0))]⟩
def soft_AddBy.j2 : LJ 2 28 Unit (Bool × Int × Int × Bool × Int × Int) := ⟨fun r t e => [(0, er e 0), (7, er e 7), (8, er e 8)], fun r t h => [((0, 7, 0), bs (bs (bs (hr h (0, 7, 0)) 0 (.v (.bool t.1))) 3 (.v (.int .i64 t.2.1))) 4 (.v (.int .u64 t.2.2.1))), ((0, 8, 0), bs (bs (bs (hr h (0, 8, 0)) 0 (.v (.bool t.2.2.2.1))) 3 (.v (.int .i64 t.2.2.2.2.1))) 4 (.v (.int .u64 t.2.2.2.2.2)))]⟩
def soft_AddBy.j1 : LJ 1 24 Unit Unit := ⟨fun r t e => [(0, er e 0), (7, er e 7), (8, er e 8)], fun r t h => [((0, 7, 0), bs (bs (hr h (0, 7, 0)) 1 (.v (.bool false))) 2 (.v (.bool false))), ((0, 8, 0), bs (bs (hr h (0, 8, 0)) 1 (.v (.bool false))) 2 (.v (.bool false)))]⟩
set_option maxHeartbeats 20000000 in
open soft_AddBy in
theorem w72 (cp : CallP) (fu : Nat) (x1 : Int) (x2 : Int) (x3 : Int) (H1 : K104 fu cp) (H2 : K105 fu cp) (H3 : K106 fu cp) : J (go Tryz.prog noC cp noI 0 [] d72 fu (fin Tryz.prog [.tmp 6] [23]) (bodyOf Tryz.f72) (initE 0 [.v (.int .i64 x1), .v (.int .u32 x2), .v (.int .u32 x3)]) [] []) (soft_AddBy fu x1 x2 x3) e72 := by
 unfold soft_AddBy e72
 conv => arg 1; simp only [bodyOf, Tryz.f72]
 have z0 := d72_at
 exact Wk
theorem ok72 (fu : Nat) (x1 : Int) (x2 : Int) (x3 : Int) (r) (h : soft_AddBy fu x1 x2 x3 = some r) : PureOK Tryz.prog 72 [.v (.int .i64 x1), .v (.int .u32 x2), .v (.int .u32 x3)] (e72 r) := pureT mixed [(C104 fu).ct, (C105 fu).ct, (C106 fu).ct] (ids := [104, 105, 106]) rfl (by decide) i72 (C := noC) (ci := fun cp => noI) (fun cp ok => noI_ok) (fun cp H => w72 cp fu x1 x2 x3 (u104 H.1) (u105 H.2.1) (u106 H.2.2.1)) h
/-! 41: lattice/soft.Add -/
open Aw (d41)
def d41_at := by have h := tabL Aw.d41.eq_1; simp only [AllAt, Nat.zero_add, Nat.reduceAdd] at h; exact h
theorem i41 : finfo Tryz.prog 41 d41 = some ⟨bodyOf Tryz.f41, [.tmp 4], [23]⟩ := finfo_at Tryz.func41 rfl (by kernel_rfl) (by kernel_rfl)
def e41 : Int → AV := fun r => .v (.int .u32 r)
structure K72 (fu : Nat) (cp : CallP) : Prop where
 ap : ∀ {a0 : Int} {a1 : Int} {a2 : Int} {r}, soft_AddBy fu a0 a1 a2 = some r → cp 72 [.v (.int .i64 a0), .v (.int .u32 a1), .v (.int .u32 a2)] = some (.v (.int .u32 r))
noncomputable def C72 (fu : Nat) : Cm Tryz.prog (Int × Int × Int) Int := ⟨72, fun t => [.v (.int .i64 t.1), .v (.int .u32 t.2.1), .v (.int .u32 t.2.2)], fun t => soft_AddBy fu t.1 t.2.1 t.2.2, e72, fun t b h => ok72 fu t.1 t.2.1 t.2.2  b h, Zi⟩
theorem u72 {fu : Nat} {cp : CallP} (H : Hit cp (C72 fu).ct) : K72 fu cp := ⟨fun {a0 a1 a2 r} h => (C72 fu).at H (a0, a1, a2) r h⟩
set_option maxHeartbeats 20000000 in
theorem w41 (cp : CallP) (fu : Nat) (x1 : Int) (x2 : Int) (H1 : K72 fu cp) : J (go Tryz.prog noC cp noI 0 [] d41 fu (fin Tryz.prog [.tmp 4] [23]) (bodyOf Tryz.f41) (initE 0 [.v (.int .u32 x1), .v (.int .u32 x2)]) [] []) (soft_Add fu x1 x2) e41 := by
 unfold soft_Add e41
 conv => arg 1; simp only [bodyOf, Tryz.f41]
 have z0 := d41_at
 exact Wk
theorem ok41 (fu : Nat) (x1 : Int) (x2 : Int) (r) (h : soft_Add fu x1 x2 = some r) : PureOK Tryz.prog 41 [.v (.int .u32 x1), .v (.int .u32 x2)] (e41 r) := pureT mixed [(C72 fu).ct] (ids := [72]) rfl (by decide) i41 (C := noC) (ci := fun cp => noI) (fun cp ok => noI_ok) (fun cp H => w41 cp fu x1 x2 (u72 H.1)) h
/-! 21: (*lattice/conv.work).sum -/
open Aw (d21)
def d21_at := by have h := tabL Aw.d21.eq_1; simp only [AllAt, Nat.zero_add, Nat.reduceAdd] at h; exact h
theorem i21 : finfo Tryz.prog 21 d21 = some ⟨bodyOf Tryz.f21, [.tmp 10], [23]⟩ := finfo_at Tryz.func21 rfl (by kernel_rfl) (by kernel_rfl)
def e21 : Int → AV := fun r => .v (.int .u32 r)
structure K33 (fu : Nat) (cp : CallP) : Prop where
 ap : ∀ {a0 : T_conv_axis} {a1 : Int} {a2 : Int} {r}, conv_axis_at fu a0 a1 a2 = some r → cp 33 [.agg (c_T_conv_axis a0), .v (.int .i64 a1), .v (.int .i64 a2)] = some (.tuple [.v (.int .i64 r.1), .v (.bool r.2)])
noncomputable def C33 (fu : Nat) : Cm Tryz.prog (T_conv_axis × Int × Int) (Int × Bool) := ⟨33, fun t => [.agg (c_T_conv_axis t.1), .v (.int .i64 t.2.1), .v (.int .i64 t.2.2)], fun t => conv_axis_at fu t.1 t.2.1 t.2.2, e33, fun t b h => ok33 fu t.1 t.2.1 t.2.2  b h, Zi⟩
theorem u33 {fu : Nat} {cp : CallP} (H : Hit cp (C33 fu).ct) : K33 fu cp := ⟨fun {a0 a1 a2 r} h => (C33 fu).at H (a0, a1, a2) r h⟩
structure K42 (fu : Nat) (cp : CallP) : Prop where
 ap : ∀ {a0 : Int} {a1 : Int} {r}, soft_Mul fu a0 a1 = some r → cp 42 [.v (.int .u32 a0), .v (.int .u32 a1)] = some (.v (.int .u32 r))
noncomputable def C42 (fu : Nat) : Cm Tryz.prog (Int × Int) Int := ⟨42, fun t => [.v (.int .u32 t.1), .v (.int .u32 t.2)], fun t => soft_Mul fu t.1 t.2, e42, fun t b h => ok42 fu t.1 t.2  b h, Zi⟩
theorem u42 {fu : Nat} {cp : CallP} (H : Hit cp (C42 fu).ct) : K42 fu cp := ⟨fun {a0 a1 r} h => (C42 fu).at H (a0, a1) r h⟩
structure K41 (fu : Nat) (cp : CallP) : Prop where
 ap : ∀ {a0 : Int} {a1 : Int} {r}, soft_Add fu a0 a1 = some r → cp 41 [.v (.int .u32 a0), .v (.int .u32 a1)] = some (.v (.int .u32 r))
noncomputable def C41 (fu : Nat) : Cm Tryz.prog (Int × Int) Int := ⟨41, fun t => [.v (.int .u32 t.1), .v (.int .u32 t.2)], fun t => soft_Add fu t.1 t.2, e41, fun t b h => ok41 fu t.1 t.2  b h, Zi⟩
theorem u41 {fu : Nat} {cp : CallP} (H : Hit cp (C41 fu).ct) : K41 fu cp := ⟨fun {a0 a1 r} h => (C41 fu).at H (a0, a1) r h⟩
def conv_work_sum.m3 : LJ 3 30 Unit (Int × Int) := ⟨fun r s e => [(0, er e 0), (2, er e 2), (3, er e 3), (4, er e 4), (11, er e 11), (12, er e 12), (13, er e 13), (14, er e 14), (15, .v (.int .u32 s.1)), (16, er e 16), (17, er e 17), (18, er e 18), (19, er e 19), (62, er e 62), (63, er e 63), (79, er e 79), (80, er e 80), (99, er e 99), (100, .v (.int .i64 s.2))], fun r s h => [((0, 11, 0), hr h (0, 11, 0)), ((0, 12, 0), hr h (0, 12, 0))]⟩
def conv_work_sum.m2 : LJ 2 20 Unit (Int × Int) := ⟨fun r s e => [(0, er e 0), (2, er e 2), (3, er e 3), (4, er e 4), (11, er e 11), (12, er e 12), (13, er e 13), (14, er e 14), (15, .v (.int .u32 s.1)), (16, er e 16), (17, er e 17), (62, er e 62), (63, er e 63), (79, er e 79), (80, .v (.int .i64 s.2))], fun r s h => [((0, 11, 0), hr h (0, 11, 0)), ((0, 12, 0), hr h (0, 12, 0))]⟩
def conv_work_sum.m1 : LJ 1 12 Unit (Int × Int) := ⟨fun r s e => [(0, er e 0), (2, er e 2), (3, er e 3), (4, er e 4), (11, er e 11), (12, er e 12), (13, er e 13), (14, er e 14), (15, .v (.int .u32 s.1)), (62, er e 62), (63, .v (.int .i64 s.2))], fun r s h => [((0, 11, 0), hr h (0, 11, 0)), ((0, 12, 0), hr h (0, 12, 0))]⟩
set_option maxHeartbeats 20000000 in
open conv_work_sum in
theorem w21 (cp : CallP) (fu : Nat) (x1 : T_conv_work) (x2 : Int) (x3 : Int) (x4 : Int) (x5 : Int) (H1 : K33 fu cp) (H2 : K42 fu cp) (H3 : K41 fu cp) : J (go Tryz.prog noC cp noI 0 [] d21 fu (fin Tryz.prog [.tmp 10] [23]) (bodyOf Tryz.f21) (initE 0 [.ref (c_T_conv_work x1) 0, .v (.int .i64 x2), .v (.int .i64 x3), .v (.int .i64 x4), .v (.int .i64 x5)]) [] []) (conv_work_sum fu x1 x2 x3 x4 x5) e21 := by
 unfold conv_work_sum e21
 conv => arg 1; simp only [bodyOf, Tryz.f21]
 have z0 := d21_at
 have z1 := RL
 exact Wk
theorem ok21 (fu : Nat) (x1 : T_conv_work) (x2 : Int) (x3 : Int) (x4 : Int) (x5 : Int) (r) (h : conv_work_sum fu x1 x2 x3 x4 x5 = some r) : PureOK Tryz.prog 21 [.ref (c_T_conv_work x1) 0, .v (.int .i64 x2), .v (.int .i64 x3), .v (.int .i64 x4), .v (.int .i64 x5)] (e21 r) := pureT mixed [(C33 fu).ct, (C42 fu).ct, (C41 fu).ct] (ids := [33, 42, 41]) rfl (by decide) i21 (C := noC) (ci := fun cp => noI) (fun cp ok => noI_ok) (fun cp H => w21 cp fu x1 x2 x3 x4 x5 (u33 H.1) (u42 H.2.1) (u41 H.2.2.1)) h
/-! 19: lattice/conv.begin -/
open Aw (d19)
def d19_at := by have h := tabL Aw.d19.eq_1; simp only [AllAt, Nat.zero_add, Nat.reduceAdd] at h; exact h
noncomputable def b19 : Code := bodyOf Tryz.f19
theorem go_b19 {C : Cfg} {cp : CallP} {ci : CallI} {lvl : Nat} {prot : List Id} {D : List (Nat × List Nat)} {n : Nat} {K : KK} {e : Env} {h : Heap} {fs : List Fr} : go Tryz.prog C cp ci lvl prot D n K b19 e h fs = go Tryz.prog C cp ci lvl prot D n K (bodyOf Tryz.f19) e h fs := rfl
theorem i19 : finfo Tryz.prog 19 d19 = some ⟨b19, [.tmp 6, .tmp 7], [49, 32]⟩ := finfo_at Tryz.func19 rfl (by kernel_rfl) (by kernel_rfl)
/-! 20: (*lattice/conv.work).each -/
open Aw (d20)
def d20_at := by have h := tabL Aw.d20.eq_1; simp only [AllAt, Nat.zero_add, Nat.reduceAdd] at h; exact h
noncomputable def b20 : Code := bodyOf Tryz.f20
theorem go_b20 {C : Cfg} {cp : CallP} {ci : CallI} {lvl : Nat} {prot : List Id} {D : List (Nat × List Nat)} {n : Nat} {K : KK} {e : Env} {h : Heap} {fs : List Fr} : go Tryz.prog C cp ci lvl prot D n K b20 e h fs = go Tryz.prog C cp ci lvl prot D n K (bodyOf Tryz.f20) e h fs := rfl
theorem i20 : finfo Tryz.prog 20 d20 = some ⟨b20, [.cell 4 28], [28]⟩ := finfo_at Tryz.func20 rfl (by kernel_rfl) (by kernel_rfl)
end Go.Av
