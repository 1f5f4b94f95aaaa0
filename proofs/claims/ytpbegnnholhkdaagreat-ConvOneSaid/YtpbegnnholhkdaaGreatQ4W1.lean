/- The walks of the plain functions. Made by a program of mine. Conditions: none. -/
import Derived.Test.YtpbegnnholhkdaaGreatQ4S
import Derived.Test.YtpbegnnholhkdaaGreatQ4A
import Derived.Test.YtpbegnnholhkdaaGreatProg
set_option linter.unusedVariables false
set_option linter.unusedSimpArgs false
set_option linter.defProp false
set_option maxRecDepth 20000
open Go Go.Proofs
namespace Go.Av
theorem mixed : Tryz.prog.follows .mixedOrders = true := by kernel_rfl
def bodyOf (f : Func) : Code := f.body.getD .skip
theorem tv2 : tview Tryz.prog 2 = some (.int .i64) := by kernel_rfl
theorem ts2 : tsize Tryz.prog 2 = 1 := by kernel_rfl
def pt2 := @ptW _ _ _ tv2 rfl
def st2 := @stW _ _ ts2
theorem tv3 : tview Tryz.prog 3 = some (.int .i64) := by kernel_rfl
theorem ts3 : tsize Tryz.prog 3 = 1 := by kernel_rfl
def pt3 := @ptW _ _ _ tv3 rfl
def st3 := @stW _ _ ts3
theorem tv4 : tview Tryz.prog 4 = some (.bool) := by kernel_rfl
theorem ts4 : tsize Tryz.prog 4 = 1 := by kernel_rfl
def pt4 := @ptW _ _ _ tv4 rfl
def sb4 := @sbW _ _ ts4
theorem tv5 : tview Tryz.prog 5 = some (.int .u8) := by kernel_rfl
theorem ts5 : tsize Tryz.prog 5 = 1 := by kernel_rfl
def pt5 := @ptW _ _ _ tv5 rfl
def st5 := @stW _ _ ts5
theorem tv9 : tview Tryz.prog 9 = some (.str) := by kernel_rfl
theorem ts9 : tsize Tryz.prog 9 = 1 := by kernel_rfl
def pt9 := @ptW _ _ _ tv9 rfl
theorem le9 : ∀ {s : ByteArray}, abuiltin Tryz.prog .len #[9] [.v (.string s)] = some (.v (.int .i64 s.size)) := len_str tv9
theorem ix9 : ∀ {s : ByteArray} {i : Int}, aindex Tryz.prog 9 (.v (.string s)) i = aixS s i := ix_str tv9
theorem tv22 : tview Tryz.prog 22 = some (.slice 3 1 8) := by kernel_rfl
theorem ts22 : tsize Tryz.prog 22 = 1 := by kernel_rfl
def pt22 := @ptW _ _ _ tv22 rfl
def ia22 := @iaW _ _ _ _ _ tv22
def io22 := @ioW _ _ _ _ _ tv22
def le22 := @leW _ _ _ _ _ tv22
theorem tz3 : tzero Tryz.prog 3 = some [.v (.int .i64 0)] := by kernel_rfl
theorem mk22 : ∀ {a b : Int} {k k' : IntKind}, 0 ≤ a → a ≤ b → b ≤ 140737488355328 → b * 8 ≤ 140737488355328 → mkX Tryz.prog 22 (.v (.int k a)) (.v (.int k' b)) = some (.fresh 1 a.toNat (lm (ik .i64) (List.replicate a.toNat 0))) := mk_ik tv22 tz3
def ap22 := @apW _ _ _ _ _ _ tv22 tz3 rfl (by decide)
def bs22 := @bsW _ _ _ _ _ _ tv22 tz3 rfl (by decide)
def ao22 := @aoW _ _ _ _ _ tv22
def as22 := @asW _ _ _ _ _ tv22
def sa22 := @saW _ _ ts22
def so22 := @soW _ _ ts22
theorem tv23 : tview Tryz.prog 23 = some (.int .u32) := by kernel_rfl
theorem ts23 : tsize Tryz.prog 23 = 1 := by kernel_rfl
def pt23 := @ptW _ _ _ tv23 rfl
def st23 := @stW _ _ ts23
theorem tv24 : tview Tryz.prog 24 = some (.slice 23 1 4) := by kernel_rfl
theorem ts24 : tsize Tryz.prog 24 = 1 := by kernel_rfl
def pt24 := @ptW _ _ _ tv24 rfl
def ia24 := @iaW _ _ _ _ _ tv24
def io24 := @ioW _ _ _ _ _ tv24
def le24 := @leW _ _ _ _ _ tv24
theorem tz23 : tzero Tryz.prog 23 = some [.v (.int .u32 0)] := by kernel_rfl
theorem mk24 : ∀ {a b : Int} {k k' : IntKind}, 0 ≤ a → a ≤ b → b ≤ 140737488355328 → b * 4 ≤ 140737488355328 → mkX Tryz.prog 24 (.v (.int k a)) (.v (.int k' b)) = some (.fresh 1 a.toNat (lm (ik .u32) (List.replicate a.toNat 0))) := mk_ik tv24 tz23
def ap24 := @apW _ _ _ _ _ _ tv24 tz23 rfl (by decide)
def bs24 := @bsW _ _ _ _ _ _ tv24 tz23 rfl (by decide)
def sa24 := @saW _ _ ts24
def so24 := @soW _ _ ts24
theorem tv25 : tview Tryz.prog 25 = some (.slice 2 1 8) := by kernel_rfl
theorem ts25 : tsize Tryz.prog 25 = 1 := by kernel_rfl
def pt25 := @ptW _ _ _ tv25 rfl
def ia25 := @iaW _ _ _ _ _ tv25
def io25 := @ioW _ _ _ _ _ tv25
def le25 := @leW _ _ _ _ _ tv25
theorem tz2 : tzero Tryz.prog 2 = some [.v (.int .i64 0)] := by kernel_rfl
theorem mk25 : ∀ {a b : Int} {k k' : IntKind}, 0 ≤ a → a ≤ b → b ≤ 140737488355328 → b * 8 ≤ 140737488355328 → mkX Tryz.prog 25 (.v (.int k a)) (.v (.int k' b)) = some (.fresh 1 a.toNat (lm (ik .i64) (List.replicate a.toNat 0))) := mk_ik tv25 tz2
def ap25 := @apW _ _ _ _ _ _ tv25 tz2 rfl (by decide)
def bs25 := @bsW _ _ _ _ _ _ tv25 tz2 rfl (by decide)
def sa25 := @saW _ _ ts25
def so25 := @soW _ _ ts25
theorem tv26 : tview Tryz.prog 26 = some (.slice 4 1 1) := by kernel_rfl
theorem ts26 : tsize Tryz.prog 26 = 1 := by kernel_rfl
def pt26 := @ptW _ _ _ tv26 rfl
def ia26 := @iaW _ _ _ _ _ tv26
def io26 := @ioW _ _ _ _ _ tv26
def le26 := @leW _ _ _ _ _ tv26
theorem tz4 : tzero Tryz.prog 4 = some [.v (.bool false)] := by kernel_rfl
theorem mk26 : ∀ {a b : Int} {k k' : IntKind}, 0 ≤ a → a ≤ b → b ≤ 140737488355328 → b * 1 ≤ 140737488355328 → mkX Tryz.prog 26 (.v (.int k a)) (.v (.int k' b)) = some (.fresh 1 a.toNat (lm bk (List.replicate a.toNat false))) := mk_bk tv26 tz4
def ap26 := @apW _ _ _ _ _ _ tv26 tz4 rfl (by decide)
def bs26 := @bsW _ _ _ _ _ _ tv26 tz4 rfl (by decide)
def sa26 := @saW _ _ ts26
def so26 := @soW _ _ ts26
theorem tv28 : tview Tryz.prog 28 = some (.struct) := by kernel_rfl
theorem ts28 : tsize Tryz.prog 28 = 5 := by kernel_rfl
theorem pt28 : ∀ {xs : List AV} {off : Nat}, part Tryz.prog xs 28 off = if off + 5 ≤ xs.length then some (.agg ((xs.drop off).take 5)) else none := part_struct tv28 ts28
theorem sg28 : ∀ {h : Heap} {id : Id} {off : Nat} {ys : List AV}, ys.length = 5 → stX Tryz.prog 28 h (.ptr id off 0) (.agg ys) = (h.get id).bind (stH Tryz.prog 28 h id off ys) := stX_aggH ts28 (by decide)
theorem tv30 : tview Tryz.prog 30 = some (.struct) := by kernel_rfl
theorem ts30 : tsize Tryz.prog 30 = 36 := by kernel_rfl
theorem pt30 : ∀ {xs : List AV} {off : Nat}, part Tryz.prog xs 30 off = if off + 36 ≤ xs.length then some (.agg ((xs.drop off).take 36)) else none := part_struct tv30 ts30
theorem sg30 : ∀ {h : Heap} {id : Id} {off : Nat} {ys : List AV}, ys.length = 36 → stX Tryz.prog 30 h (.ptr id off 0) (.agg ys) = (h.get id).bind (stH Tryz.prog 30 h id off ys) := stX_aggH ts30 (by decide)
theorem tv32 : tview Tryz.prog 32 = some (.int .i64) := by kernel_rfl
theorem ts32 : tsize Tryz.prog 32 = 1 := by kernel_rfl
def pt32 := @ptW _ _ _ tv32 rfl
def st32 := @stW _ _ ts32
theorem tv35 : tview Tryz.prog 35 = some (.slice 28 5 104) := by kernel_rfl
theorem ts35 : tsize Tryz.prog 35 = 1 := by kernel_rfl
def pt35 := @ptW _ _ _ tv35 rfl
def ia35 := @iaW _ _ _ _ _ tv35
def io35 := @ioW _ _ _ _ _ tv35
def le35 := @leW _ _ _ _ _ tv35
theorem tz28 : tzero Tryz.prog 28 = some [.v (.int .i64 0), .v (.slice none 0 0), .v (.slice none 0 0), .v (.slice none 0 0), .v (.slice none 0 0)] := by kernel_rfl
def ap35 := @apW _ _ _ _ _ _ tv35 tz28 rfl (by decide)
theorem af35 : ∀ {lvl d m : Nat} {h : Heap} {id : Id} {n by_ : Nat} {l b : List T_Tensor}, m = b.length → n + m ≤ 140737488355328 → (n + m) * by_ ≤ 140737488355328 → appI lvl d 5 by_ h m (fm c_T_Tensor b) id n n (.sl true true 5 n (fm c_T_Tensor l)) = some (.own id 0 (n + m) (n + m), h.set id (.sl true true 5 (n + m) (fm c_T_Tensor (l ++ b)))) := fun h1 h2 h3 => appI_fm c_T_Tensor_len h1 h2 h3 (one_fm c_T_Tensor_one)
def bs35 := @bsW _ _ _ _ _ _ tv35 tz28 rfl (by decide)
def sa35 := @saW _ _ ts35
def so35 := @soW _ _ ts35
theorem tv63 : tview Tryz.prog 63 = some (.struct) := by kernel_rfl
theorem ts63 : tsize Tryz.prog 63 = 6 := by kernel_rfl
theorem pt63 : ∀ {xs : List AV} {off : Nat}, part Tryz.prog xs 63 off = if off + 6 ≤ xs.length then some (.agg ((xs.drop off).take 6)) else none := part_struct tv63 ts63
theorem sg63 : ∀ {h : Heap} {id : Id} {off : Nat} {ys : List AV}, ys.length = 6 → stX Tryz.prog 63 h (.ptr id off 0) (.agg ys) = (h.get id).bind (stH Tryz.prog 63 h id off ys) := stX_aggH ts63 (by decide)
theorem tv70 : tview Tryz.prog 70 = some (.struct) := by kernel_rfl
theorem ts70 : tsize Tryz.prog 70 = 50 := by kernel_rfl
theorem pt70 : ∀ {xs : List AV} {off : Nat}, part Tryz.prog xs 70 off = if off + 50 ≤ xs.length then some (.agg ((xs.drop off).take 50)) else none := part_struct tv70 ts70
theorem tv73 : tview Tryz.prog 73 = some (.slice 78 8 144) := by kernel_rfl
theorem ts73 : tsize Tryz.prog 73 = 1 := by kernel_rfl
def pt73 := @ptW _ _ _ tv73 rfl
def ia73 := @iaW _ _ _ _ _ tv73
def io73 := @ioW _ _ _ _ _ tv73
def le73 := @leW _ _ _ _ _ tv73
theorem tz78 : tzero Tryz.prog 78 = some [.v (.int .i64 0), .v (.slice none 0 0), .v (.bool false), .v (.int .i64 0), .v (.slice none 0 0), .v (.slice none 0 0), .v (.slice none 0 0), .v (.slice none 0 0)] := by kernel_rfl
def ap73 := @apW _ _ _ _ _ _ tv73 tz78 rfl (by decide)
theorem af73 : ∀ {lvl d m : Nat} {h : Heap} {id : Id} {n by_ : Nat} {l b : List T_Val}, m = b.length → n + m ≤ 140737488355328 → (n + m) * by_ ≤ 140737488355328 → appI lvl d 8 by_ h m (fm c_T_Val b) id n n (.sl true true 8 n (fm c_T_Val l)) = some (.own id 0 (n + m) (n + m), h.set id (.sl true true 8 (n + m) (fm c_T_Val (l ++ b)))) := fun h1 h2 h3 => appI_fm c_T_Val_len h1 h2 h3 (one_fm c_T_Val_one)
def bs73 := @bsW _ _ _ _ _ _ tv73 tz78 rfl (by decide)
def sa73 := @saW _ _ ts73
def so73 := @soW _ _ ts73
theorem tv78 : tview Tryz.prog 78 = some (.struct) := by kernel_rfl
theorem ts78 : tsize Tryz.prog 78 = 8 := by kernel_rfl
theorem pt78 : ∀ {xs : List AV} {off : Nat}, part Tryz.prog xs 78 off = if off + 8 ≤ xs.length then some (.agg ((xs.drop off).take 8)) else none := part_struct tv78 ts78
theorem sg78 : ∀ {h : Heap} {id : Id} {off : Nat} {ys : List AV}, ys.length = 8 → stX Tryz.prog 78 h (.ptr id off 0) (.agg ys) = (h.get id).bind (stH Tryz.prog 78 h id off ys) := stX_aggH ts78 (by decide)
theorem tv86 : tview Tryz.prog 86 = some (.int .u64) := by kernel_rfl
theorem ts86 : tsize Tryz.prog 86 = 1 := by kernel_rfl
def pt86 := @ptW _ _ _ tv86 rfl
def st86 := @stW _ _ ts86
theorem tv96 : tview Tryz.prog 96 = some (.struct) := by kernel_rfl
theorem ts96 : tsize Tryz.prog 96 = 39 := by kernel_rfl
theorem pt96 : ∀ {xs : List AV} {off : Nat}, part Tryz.prog xs 96 off = if off + 39 ≤ xs.length then some (.agg ((xs.drop off).take 39)) else none := part_struct tv96 ts96
theorem sg96 : ∀ {h : Heap} {id : Id} {off : Nat} {ys : List AV}, ys.length = 39 → stX Tryz.prog 96 h (.ptr id off 0) (.agg ys) = (h.get id).bind (stH Tryz.prog 96 h id off ys) := stX_aggH ts96 (by decide)
theorem tv98 : tview Tryz.prog 98 = some (.slice 22 1 24) := by kernel_rfl
theorem ts98 : tsize Tryz.prog 98 = 1 := by kernel_rfl
def pt98 := @ptW _ _ _ tv98 rfl
def ia98 := @iaW _ _ _ _ _ tv98
def io98 := @ioW _ _ _ _ _ tv98
def le98 := @leW _ _ _ _ _ tv98
theorem tz22 : tzero Tryz.prog 22 = some [.v (.slice none 0 0)] := by kernel_rfl
def bs98 := @bsW _ _ _ _ _ _ tv98 tz22 rfl (by decide)
def sa98 := @saW _ _ ts98
def so98 := @soW _ _ ts98
theorem tv119 : tview Tryz.prog 119 = some (.struct) := by kernel_rfl
theorem ts119 : tsize Tryz.prog 119 = 5 := by kernel_rfl
theorem pt119 : ∀ {xs : List AV} {off : Nat}, part Tryz.prog xs 119 off = if off + 5 ≤ xs.length then some (.agg ((xs.drop off).take 5)) else none := part_struct tv119 ts119
theorem sg119 : ∀ {h : Heap} {id : Id} {off : Nat} {ys : List AV}, ys.length = 5 → stX Tryz.prog 119 h (.ptr id off 0) (.agg ys) = (h.get id).bind (stH Tryz.prog 119 h id off ys) := stX_aggH ts119 (by decide)
theorem fo28_0 : fieldOf Tryz.prog 28 0 = some (0, 3) := by kernel_rfl
def fp28_0 := @fpW _ _ _ _ _ _ fo28_0 ts3 (by decide)
def fr28_0 := @frW _ _ _ _ _ _ fo28_0 ts3 (by decide)
theorem fo28_1 : fieldOf Tryz.prog 28 1 = some (1, 22) := by kernel_rfl
def fp28_1 := @fpW _ _ _ _ _ _ fo28_1 ts22 (by decide)
def fr28_1 := @frW _ _ _ _ _ _ fo28_1 ts22 (by decide)
theorem fo28_2 : fieldOf Tryz.prog 28 2 = some (2, 24) := by kernel_rfl
def fp28_2 := @fpW _ _ _ _ _ _ fo28_2 ts24 (by decide)
def fr28_2 := @frW _ _ _ _ _ _ fo28_2 ts24 (by decide)
theorem fo28_3 : fieldOf Tryz.prog 28 3 = some (3, 25) := by kernel_rfl
def fp28_3 := @fpW _ _ _ _ _ _ fo28_3 ts25 (by decide)
def fr28_3 := @frW _ _ _ _ _ _ fo28_3 ts25 (by decide)
theorem fo28_4 : fieldOf Tryz.prog 28 4 = some (4, 26) := by kernel_rfl
def fp28_4 := @fpW _ _ _ _ _ _ fo28_4 ts26 (by decide)
def fr28_4 := @frW _ _ _ _ _ _ fo28_4 ts26 (by decide)
theorem fo30_19 : fieldOf Tryz.prog 30 19 = some (19, 3) := by kernel_rfl
def fp30_19 := @fpW _ _ _ _ _ _ fo30_19 ts3 (by decide)
def fr30_19 := @frW _ _ _ _ _ _ fo30_19 ts3 (by decide)
theorem fo30_20 : fieldOf Tryz.prog 30 20 = some (20, 22) := by kernel_rfl
def fp30_20 := @fpW _ _ _ _ _ _ fo30_20 ts22 (by decide)
def fr30_20 := @frW _ _ _ _ _ _ fo30_20 ts22 (by decide)
theorem fo30_21 : fieldOf Tryz.prog 30 21 = some (21, 22) := by kernel_rfl
def fp30_21 := @fpW _ _ _ _ _ _ fo30_21 ts22 (by decide)
def fr30_21 := @frW _ _ _ _ _ _ fo30_21 ts22 (by decide)
theorem fo30_22 : fieldOf Tryz.prog 30 22 = some (22, 22) := by kernel_rfl
def fp30_22 := @fpW _ _ _ _ _ _ fo30_22 ts22 (by decide)
def fr30_22 := @frW _ _ _ _ _ _ fo30_22 ts22 (by decide)
theorem fo30_23 : fieldOf Tryz.prog 30 23 = some (23, 22) := by kernel_rfl
def fp30_23 := @fpW _ _ _ _ _ _ fo30_23 ts22 (by decide)
def fr30_23 := @frW _ _ _ _ _ _ fo30_23 ts22 (by decide)
theorem fo30_24 : fieldOf Tryz.prog 30 24 = some (24, 3) := by kernel_rfl
def fp30_24 := @fpW _ _ _ _ _ _ fo30_24 ts3 (by decide)
def fr30_24 := @frW _ _ _ _ _ _ fo30_24 ts3 (by decide)
theorem fo30_25 : fieldOf Tryz.prog 30 25 = some (25, 4) := by kernel_rfl
def fp30_25 := @fpW _ _ _ _ _ _ fo30_25 ts4 (by decide)
def fr30_25 := @frW _ _ _ _ _ _ fo30_25 ts4 (by decide)
theorem fo63_0 : fieldOf Tryz.prog 63 0 = some (0, 3) := by kernel_rfl
def fp63_0 := @fpW _ _ _ _ _ _ fo63_0 ts3 (by decide)
def fr63_0 := @frW _ _ _ _ _ _ fo63_0 ts3 (by decide)
theorem fo63_1 : fieldOf Tryz.prog 63 1 = some (1, 3) := by kernel_rfl
def fp63_1 := @fpW _ _ _ _ _ _ fo63_1 ts3 (by decide)
def fr63_1 := @frW _ _ _ _ _ _ fo63_1 ts3 (by decide)
theorem fo63_2 : fieldOf Tryz.prog 63 2 = some (2, 3) := by kernel_rfl
def fp63_2 := @fpW _ _ _ _ _ _ fo63_2 ts3 (by decide)
def fr63_2 := @frW _ _ _ _ _ _ fo63_2 ts3 (by decide)
theorem fo63_3 : fieldOf Tryz.prog 63 3 = some (3, 3) := by kernel_rfl
def fp63_3 := @fpW _ _ _ _ _ _ fo63_3 ts3 (by decide)
def fr63_3 := @frW _ _ _ _ _ _ fo63_3 ts3 (by decide)
theorem fo63_4 : fieldOf Tryz.prog 63 4 = some (4, 3) := by kernel_rfl
def fp63_4 := @fpW _ _ _ _ _ _ fo63_4 ts3 (by decide)
def fr63_4 := @frW _ _ _ _ _ _ fo63_4 ts3 (by decide)
theorem fo63_5 : fieldOf Tryz.prog 63 5 = some (5, 3) := by kernel_rfl
def fp63_5 := @fpW _ _ _ _ _ _ fo63_5 ts3 (by decide)
def fr63_5 := @frW _ _ _ _ _ _ fo63_5 ts3 (by decide)
theorem fo70_0 : fieldOf Tryz.prog 70 0 = some (0, 30) := by kernel_rfl
def fp70_0 := @fpW _ _ _ _ _ _ fo70_0 ts30 (by decide)
def fr70_0 := @frW _ _ _ _ _ _ fo70_0 ts30 (by decide)
theorem fo70_1 : fieldOf Tryz.prog 70 1 = some (36, 35) := by kernel_rfl
def fp70_1 := @fpW _ _ _ _ _ _ fo70_1 ts35 (by decide)
def fr70_1 := @frW _ _ _ _ _ _ fo70_1 ts35 (by decide)
theorem fo70_2 : fieldOf Tryz.prog 70 2 = some (37, 22) := by kernel_rfl
def fp70_2 := @fpW _ _ _ _ _ _ fo70_2 ts22 (by decide)
def fr70_2 := @frW _ _ _ _ _ _ fo70_2 ts22 (by decide)
theorem fo70_3 : fieldOf Tryz.prog 70 3 = some (38, 63) := by kernel_rfl
def fp70_3 := @fpW _ _ _ _ _ _ fo70_3 ts63 (by decide)
def fr70_3 := @frW _ _ _ _ _ _ fo70_3 ts63 (by decide)
theorem fo70_4 : fieldOf Tryz.prog 70 4 = some (44, 63) := by kernel_rfl
def fp70_4 := @fpW _ _ _ _ _ _ fo70_4 ts63 (by decide)
def fr70_4 := @frW _ _ _ _ _ _ fo70_4 ts63 (by decide)
theorem fo78_0 : fieldOf Tryz.prog 78 0 = some (0, 3) := by kernel_rfl
def fp78_0 := @fpW _ _ _ _ _ _ fo78_0 ts3 (by decide)
def fr78_0 := @frW _ _ _ _ _ _ fo78_0 ts3 (by decide)
theorem fd78_0 : ∀ {xs : List AV}, fdX Tryz.prog 78 0 (.agg xs) = part Tryz.prog xs 3 0 := fdX_at fo78_0
theorem fo78_1 : fieldOf Tryz.prog 78 1 = some (1, 22) := by kernel_rfl
def fp78_1 := @fpW _ _ _ _ _ _ fo78_1 ts22 (by decide)
def fr78_1 := @frW _ _ _ _ _ _ fo78_1 ts22 (by decide)
theorem fd78_1 : ∀ {xs : List AV}, fdX Tryz.prog 78 1 (.agg xs) = part Tryz.prog xs 22 1 := fdX_at fo78_1
theorem fo78_2 : fieldOf Tryz.prog 78 2 = some (2, 4) := by kernel_rfl
def fp78_2 := @fpW _ _ _ _ _ _ fo78_2 ts4 (by decide)
def fr78_2 := @frW _ _ _ _ _ _ fo78_2 ts4 (by decide)
theorem fo78_3 : fieldOf Tryz.prog 78 3 = some (3, 28) := by kernel_rfl
def fp78_3 := @fpW _ _ _ _ _ _ fo78_3 ts28 (by decide)
def fr78_3 := @frW _ _ _ _ _ _ fo78_3 ts28 (by decide)
theorem fo96_0 : fieldOf Tryz.prog 96 0 = some (0, 3) := by kernel_rfl
def fp96_0 := @fpW _ _ _ _ _ _ fo96_0 ts3 (by decide)
def fr96_0 := @frW _ _ _ _ _ _ fo96_0 ts3 (by decide)
theorem fo96_1 : fieldOf Tryz.prog 96 1 = some (1, 30) := by kernel_rfl
def fp96_1 := @fpW _ _ _ _ _ _ fo96_1 ts30 (by decide)
def fr96_1 := @frW _ _ _ _ _ _ fo96_1 ts30 (by decide)
theorem fo96_2 : fieldOf Tryz.prog 96 2 = some (37, 73) := by kernel_rfl
def fp96_2 := @fpW _ _ _ _ _ _ fo96_2 ts73 (by decide)
def fr96_2 := @frW _ _ _ _ _ _ fo96_2 ts73 (by decide)
theorem fo96_3 : fieldOf Tryz.prog 96 3 = some (38, 3) := by kernel_rfl
def fp96_3 := @fpW _ _ _ _ _ _ fo96_3 ts3 (by decide)
def fr96_3 := @frW _ _ _ _ _ _ fo96_3 ts3 (by decide)
theorem fo119_0 : fieldOf Tryz.prog 119 0 = some (0, 4) := by kernel_rfl
def fp119_0 := @fpW _ _ _ _ _ _ fo119_0 ts4 (by decide)
def fr119_0 := @frW _ _ _ _ _ _ fo119_0 ts4 (by decide)
theorem fo119_1 : fieldOf Tryz.prog 119 1 = some (1, 4) := by kernel_rfl
def fp119_1 := @fpW _ _ _ _ _ _ fo119_1 ts4 (by decide)
def fr119_1 := @frW _ _ _ _ _ _ fo119_1 ts4 (by decide)
theorem fo119_2 : fieldOf Tryz.prog 119 2 = some (2, 4) := by kernel_rfl
def fp119_2 := @fpW _ _ _ _ _ _ fo119_2 ts4 (by decide)
def fr119_2 := @frW _ _ _ _ _ _ fo119_2 ts4 (by decide)
theorem fo119_3 : fieldOf Tryz.prog 119 3 = some (3, 3) := by kernel_rfl
def fp119_3 := @fpW _ _ _ _ _ _ fo119_3 ts3 (by decide)
def fr119_3 := @frW _ _ _ _ _ _ fo119_3 ts3 (by decide)
theorem fo119_4 : fieldOf Tryz.prog 119 4 = some (4, 86) := by kernel_rfl
def fp119_4 := @fpW _ _ _ _ _ _ fo119_4 ts86 (by decide)
def fr119_4 := @frW _ _ _ _ _ _ fo119_4 ts86 (by decide)
def bl28 := @blW _ _ _ tz28 tv28
theorem fl28_0 : flP Tryz.prog 28 0 = some (0, 1) := @flW _ _ _ _ _ _ fo28_0 ts3
theorem fl28_1 : flP Tryz.prog 28 1 = some (1, 1) := @flW _ _ _ _ _ _ fo28_1 ts22
theorem fl28_2 : flP Tryz.prog 28 2 = some (2, 1) := @flW _ _ _ _ _ _ fo28_2 ts24
theorem fl28_3 : flP Tryz.prog 28 3 = some (3, 1) := @flW _ _ _ _ _ _ fo28_3 ts25
theorem fl28_4 : flP Tryz.prog 28 4 = some (4, 1) := @flW _ _ _ _ _ _ fo28_4 ts26
theorem tz30 : tzero Tryz.prog 30 = some [.v (.int .i64 0), .v (.slice none 0 0), .v (.bool false), .v (.bool false), .v (.bool false), .v (.bool false), .v (.bool false), .v (.slice none 0 0), .v (.bool false), .v (.int .u32 0), .v (.int .u32 0), .v (.int .u32 0), .v (.bool false), .v (.bool false), .v (.bool false), .v (.int .i64 0), .v (.int .i64 0), .v (.bool false), .v (.bool false), .v (.int .i64 0), .v (.slice none 0 0), .v (.slice none 0 0), .v (.slice none 0 0), .v (.slice none 0 0), .v (.int .i64 0), .v (.bool false), .v (.bool false), .v (.int .i64 0), .v (.int .i64 0), .v (.int .i64 0), .v (.bool false), .v (.int .i64 0), .v (.slice none 0 0), .v (.slice none 0 0), .v (.slice none 0 0), .v (.slice none 0 0)] := by kernel_rfl
def bl30 := @blW _ _ _ tz30 tv30
theorem fl30_19 : flP Tryz.prog 30 19 = some (19, 1) := @flW _ _ _ _ _ _ fo30_19 ts3
theorem fl30_20 : flP Tryz.prog 30 20 = some (20, 1) := @flW _ _ _ _ _ _ fo30_20 ts22
theorem fl30_21 : flP Tryz.prog 30 21 = some (21, 1) := @flW _ _ _ _ _ _ fo30_21 ts22
theorem fl30_22 : flP Tryz.prog 30 22 = some (22, 1) := @flW _ _ _ _ _ _ fo30_22 ts22
theorem fl30_23 : flP Tryz.prog 30 23 = some (23, 1) := @flW _ _ _ _ _ _ fo30_23 ts22
theorem fl30_24 : flP Tryz.prog 30 24 = some (24, 1) := @flW _ _ _ _ _ _ fo30_24 ts3
theorem fl30_25 : flP Tryz.prog 30 25 = some (25, 1) := @flW _ _ _ _ _ _ fo30_25 ts4
theorem tz63 : tzero Tryz.prog 63 = some [.v (.int .i64 0), .v (.int .i64 0), .v (.int .i64 0), .v (.int .i64 0), .v (.int .i64 0), .v (.int .i64 0)] := by kernel_rfl
def bl63 := @blW _ _ _ tz63 tv63
theorem fl63_0 : flP Tryz.prog 63 0 = some (0, 1) := @flW _ _ _ _ _ _ fo63_0 ts3
theorem fl63_1 : flP Tryz.prog 63 1 = some (1, 1) := @flW _ _ _ _ _ _ fo63_1 ts3
theorem fl63_2 : flP Tryz.prog 63 2 = some (2, 1) := @flW _ _ _ _ _ _ fo63_2 ts3
theorem fl63_3 : flP Tryz.prog 63 3 = some (3, 1) := @flW _ _ _ _ _ _ fo63_3 ts3
theorem fl63_4 : flP Tryz.prog 63 4 = some (4, 1) := @flW _ _ _ _ _ _ fo63_4 ts3
theorem fl63_5 : flP Tryz.prog 63 5 = some (5, 1) := @flW _ _ _ _ _ _ fo63_5 ts3
theorem tz70 : tzero Tryz.prog 70 = some [.v (.int .i64 0), .v (.slice none 0 0), .v (.bool false), .v (.bool false), .v (.bool false), .v (.bool false), .v (.bool false), .v (.slice none 0 0), .v (.bool false), .v (.int .u32 0), .v (.int .u32 0), .v (.int .u32 0), .v (.bool false), .v (.bool false), .v (.bool false), .v (.int .i64 0), .v (.int .i64 0), .v (.bool false), .v (.bool false), .v (.int .i64 0), .v (.slice none 0 0), .v (.slice none 0 0), .v (.slice none 0 0), .v (.slice none 0 0), .v (.int .i64 0), .v (.bool false), .v (.bool false), .v (.int .i64 0), .v (.int .i64 0), .v (.int .i64 0), .v (.bool false), .v (.int .i64 0), .v (.slice none 0 0), .v (.slice none 0 0), .v (.slice none 0 0), .v (.slice none 0 0), .v (.slice none 0 0), .v (.slice none 0 0), .v (.int .i64 0), .v (.int .i64 0), .v (.int .i64 0), .v (.int .i64 0), .v (.int .i64 0), .v (.int .i64 0), .v (.int .i64 0), .v (.int .i64 0), .v (.int .i64 0), .v (.int .i64 0), .v (.int .i64 0), .v (.int .i64 0)] := by kernel_rfl
def bl70 := @blW _ _ _ tz70 tv70
theorem fl70_0 : flP Tryz.prog 70 0 = some (0, 36) := @flW _ _ _ _ _ _ fo70_0 ts30
theorem fl70_1 : flP Tryz.prog 70 1 = some (36, 1) := @flW _ _ _ _ _ _ fo70_1 ts35
theorem fl70_2 : flP Tryz.prog 70 2 = some (37, 1) := @flW _ _ _ _ _ _ fo70_2 ts22
theorem fl70_3 : flP Tryz.prog 70 3 = some (38, 6) := @flW _ _ _ _ _ _ fo70_3 ts63
theorem fl70_4 : flP Tryz.prog 70 4 = some (44, 6) := @flW _ _ _ _ _ _ fo70_4 ts63
def bl78 := @blW _ _ _ tz78 tv78
theorem fl78_0 : flP Tryz.prog 78 0 = some (0, 1) := @flW _ _ _ _ _ _ fo78_0 ts3
theorem fl78_1 : flP Tryz.prog 78 1 = some (1, 1) := @flW _ _ _ _ _ _ fo78_1 ts22
theorem fl78_2 : flP Tryz.prog 78 2 = some (2, 1) := @flW _ _ _ _ _ _ fo78_2 ts4
theorem fl78_3 : flP Tryz.prog 78 3 = some (3, 5) := @flW _ _ _ _ _ _ fo78_3 ts28
theorem tz96 : tzero Tryz.prog 96 = some [.v (.int .i64 0), .v (.int .i64 0), .v (.slice none 0 0), .v (.bool false), .v (.bool false), .v (.bool false), .v (.bool false), .v (.bool false), .v (.slice none 0 0), .v (.bool false), .v (.int .u32 0), .v (.int .u32 0), .v (.int .u32 0), .v (.bool false), .v (.bool false), .v (.bool false), .v (.int .i64 0), .v (.int .i64 0), .v (.bool false), .v (.bool false), .v (.int .i64 0), .v (.slice none 0 0), .v (.slice none 0 0), .v (.slice none 0 0), .v (.slice none 0 0), .v (.int .i64 0), .v (.bool false), .v (.bool false), .v (.int .i64 0), .v (.int .i64 0), .v (.int .i64 0), .v (.bool false), .v (.int .i64 0), .v (.slice none 0 0), .v (.slice none 0 0), .v (.slice none 0 0), .v (.slice none 0 0), .v (.slice none 0 0), .v (.int .i64 0)] := by kernel_rfl
def bl96 := @blW _ _ _ tz96 tv96
theorem fl96_0 : flP Tryz.prog 96 0 = some (0, 1) := @flW _ _ _ _ _ _ fo96_0 ts3
theorem fl96_1 : flP Tryz.prog 96 1 = some (1, 36) := @flW _ _ _ _ _ _ fo96_1 ts30
theorem fl96_2 : flP Tryz.prog 96 2 = some (37, 1) := @flW _ _ _ _ _ _ fo96_2 ts73
theorem fl96_3 : flP Tryz.prog 96 3 = some (38, 1) := @flW _ _ _ _ _ _ fo96_3 ts3
theorem tz119 : tzero Tryz.prog 119 = some [.v (.bool false), .v (.bool false), .v (.bool false), .v (.int .i64 0), .v (.int .u64 0)] := by kernel_rfl
def bl119 := @blW _ _ _ tz119 tv119
theorem fl119_0 : flP Tryz.prog 119 0 = some (0, 1) := @flW _ _ _ _ _ _ fo119_0 ts4
theorem fl119_1 : flP Tryz.prog 119 1 = some (1, 1) := @flW _ _ _ _ _ _ fo119_1 ts4
theorem fl119_2 : flP Tryz.prog 119 2 = some (2, 1) := @flW _ _ _ _ _ _ fo119_2 ts4
theorem fl119_3 : flP Tryz.prog 119 3 = some (3, 1) := @flW _ _ _ _ _ _ fo119_3 ts3
theorem fl119_4 : flP Tryz.prog 119 4 = some (4, 1) := @flW _ _ _ _ _ _ fo119_4 ts86
def al28 := @alW _ _ _ tz28
def aq28 := @aqW _ _ _ tz28
def al30 := @alW _ _ _ tz30
def aq30 := @aqW _ _ _ tz30
def al63 := @alW _ _ _ tz63
def aq63 := @aqW _ _ _ tz63
def al78 := @alW _ _ _ tz78
def aq78 := @aqW _ _ _ tz78
def al96 := @alW _ _ _ tz96
def aq96 := @aqW _ _ _ tz96
def al119 := @alW _ _ _ tz119
def aq119 := @aqW _ _ _ tz119
theorem ab4 : ∀ {op : BinOp} {a b : Bool}, abin Tryz.prog op 4 (.v (.bool a)) (.v (.bool b)) = abinB op a b := abin_bool tv4
theorem cv3_86 : ∀ {k' : IntKind} {z : Int}, cvX Tryz.prog 3 86 (.v (.int k' z)) = some (.v (.int .u64 (wk .u64 z))) := cvX_at tv3 tv86
theorem cv5_3 : ∀ {k' : IntKind} {z : Int}, cvX Tryz.prog 5 3 (.v (.int k' z)) = some (.v (.int .i64 (wk .i64 z))) := cvX_at tv5 tv3
theorem cv23_3 : ∀ {k' : IntKind} {z : Int}, cvX Tryz.prog 23 3 (.v (.int k' z)) = some (.v (.int .i64 (wk .i64 z))) := cvX_at tv23 tv3
theorem cv23_86 : ∀ {k' : IntKind} {z : Int}, cvX Tryz.prog 23 86 (.v (.int k' z)) = some (.v (.int .u64 (wk .u64 z))) := cvX_at tv23 tv86
theorem cv86_5 : ∀ {k' : IntKind} {z : Int}, cvX Tryz.prog 86 5 (.v (.int k' z)) = some (.v (.int .u8 (wk .u8 z))) := cvX_at tv86 tv5
theorem cv86_23 : ∀ {k' : IntKind} {z : Int}, cvX Tryz.prog 86 23 (.v (.int k' z)) = some (.v (.int .u32 (wk .u32 z))) := cvX_at tv86 tv23
theorem sc22 : sliceCells Tryz.prog 4 22 = [2] := by kernel_rfl
theorem ty22 : typed Tryz.prog 22 (.v (.slice none 0 0)) = .fresh 1 0 [] := ty_nil sc22
theorem sc24 : sliceCells Tryz.prog 4 24 = [2] := by kernel_rfl
theorem ty24 : typed Tryz.prog 24 (.v (.slice none 0 0)) = .fresh 1 0 [] := ty_nil sc24
theorem sc25 : sliceCells Tryz.prog 4 25 = [2] := by kernel_rfl
theorem ty25 : typed Tryz.prog 25 (.v (.slice none 0 0)) = .fresh 1 0 [] := ty_nil sc25
theorem sc26 : sliceCells Tryz.prog 4 26 = [2] := by kernel_rfl
theorem ty26 : typed Tryz.prog 26 (.v (.slice none 0 0)) = .fresh 1 0 [] := ty_nil sc26
theorem sc28 : sliceCells Tryz.prog 4 28 = [0, 2, 2, 2, 2] := by kernel_rfl
theorem ty28 : ∀ {xs : List AV}, typed Tryz.prog 28 (.agg xs) = .agg (nilNew xs [0, 2, 2, 2, 2]) := ty_agg sc28
theorem sc63 : sliceCells Tryz.prog 4 63 = [0, 0, 0, 0, 0, 0] := by kernel_rfl
theorem ty63 : ∀ {xs : List AV}, typed Tryz.prog 63 (.agg xs) = .agg (nilNew xs [0, 0, 0, 0, 0, 0]) := ty_agg sc63
theorem sc73 : sliceCells Tryz.prog 4 73 = [9] := by kernel_rfl
theorem ty73 : typed Tryz.prog 73 (.v (.slice none 0 0)) = .fresh 8 0 [] := ty_nil sc73
theorem sc78 : sliceCells Tryz.prog 4 78 = [0, 2, 0, 0, 2, 2, 2, 2] := by kernel_rfl
theorem ty78 : ∀ {xs : List AV}, typed Tryz.prog 78 (.agg xs) = .agg (nilNew xs [0, 2, 0, 0, 2, 2, 2, 2]) := ty_agg sc78
theorem sc98 : sliceCells Tryz.prog 4 98 = [2] := by kernel_rfl
theorem ty98 : typed Tryz.prog 98 (.v (.slice none 0 0)) = .fresh 1 0 [] := ty_nil sc98
theorem sc119 : sliceCells Tryz.prog 4 119 = [0, 0, 0, 0, 0] := by kernel_rfl
theorem ty119 : ∀ {xs : List AV}, typed Tryz.prog 119 (.agg xs) = .agg (nilNew xs [0, 0, 0, 0, 0]) := ty_agg sc119
theorem c_T_Tensor_at {x : T_Tensor} : c_T_Tensor x = [.v (.int .i64 x.fType), .arr x.fDims.length (lm (ik .i64) x.fDims), .arr x.fF.length (lm (ik .u32) x.fF), .arr x.fI.length (lm (ik .i64) x.fI), .arr x.fB.length (lm (bk) x.fB)] := rfl
theorem c_T_Setting_at {x : T_Setting} : c_T_Setting x = [.v (.int .i64 x.fAxis), .arr x.fAxes.length (lm (ik .i64) x.fAxes), .v (.bool x.fHasAxes), .v (.bool x.fKeep), .v (.bool x.fNoop), .v (.bool x.fLast), .v (.bool x.fZero), .arr x.fPerm.length (lm (ik .i64) x.fPerm), .v (.bool x.fHasPerm), .v (.int .u32 x.fAlpha), .v (.int .u32 x.fBeta), .v (.int .u32 x.fEpsilon), .v (.bool x.fLow), .v (.bool x.fHigh), .v (.bool x.fFmod), .v (.int .i64 x.fTo), .v (.int .i64 x.fMode), .v (.bool x.fTransA), .v (.bool x.fTransB), .v (.int .i64 x.fGroup), .arr x.fKernel.length (lm (ik .i64) x.fKernel), .arr x.fStrides.length (lm (ik .i64) x.fStrides), .arr x.fPads.length (lm (ik .i64) x.fPads), .arr x.fDilations.length (lm (ik .i64) x.fDilations), .v (.int .i64 x.fAuto), .v (.bool x.fCeil), .v (.bool x.fCount), .v (.int .i64 x.fBlock), .v (.int .i64 x.fStart), .v (.int .i64 x.fEnd), .v (.bool x.fHasEnd), .v (.int .i64 x.fValue.fType), .arr x.fValue.fDims.length (lm (ik .i64) x.fValue.fDims), .arr x.fValue.fF.length (lm (ik .u32) x.fValue.fF), .arr x.fValue.fI.length (lm (ik .i64) x.fValue.fI), .arr x.fValue.fB.length (lm (bk) x.fValue.fB)] := rfl
theorem c_T_Val_at {x : T_Val} : c_T_Val x = [.v (.int .i64 x.fType), .arr x.fDims.length (lm (ik .i64) x.fDims), .v (.bool x.fConst), .v (.int .i64 x.fT.fType), .arr x.fT.fDims.length (lm (ik .i64) x.fT.fDims), .arr x.fT.fF.length (lm (ik .u32) x.fT.fF), .arr x.fT.fI.length (lm (ik .i64) x.fT.fI), .arr x.fT.fB.length (lm (bk) x.fT.fB)] := rfl
theorem c_T_infer_ask_at {x : T_infer_ask} : c_T_infer_ask x = [.v (.int .i64 x.fop), .v (.int .i64 x.fs.fAxis), .arr x.fs.fAxes.length (lm (ik .i64) x.fs.fAxes), .v (.bool x.fs.fHasAxes), .v (.bool x.fs.fKeep), .v (.bool x.fs.fNoop), .v (.bool x.fs.fLast), .v (.bool x.fs.fZero), .arr x.fs.fPerm.length (lm (ik .i64) x.fs.fPerm), .v (.bool x.fs.fHasPerm), .v (.int .u32 x.fs.fAlpha), .v (.int .u32 x.fs.fBeta), .v (.int .u32 x.fs.fEpsilon), .v (.bool x.fs.fLow), .v (.bool x.fs.fHigh), .v (.bool x.fs.fFmod), .v (.int .i64 x.fs.fTo), .v (.int .i64 x.fs.fMode), .v (.bool x.fs.fTransA), .v (.bool x.fs.fTransB), .v (.int .i64 x.fs.fGroup), .arr x.fs.fKernel.length (lm (ik .i64) x.fs.fKernel), .arr x.fs.fStrides.length (lm (ik .i64) x.fs.fStrides), .arr x.fs.fPads.length (lm (ik .i64) x.fs.fPads), .arr x.fs.fDilations.length (lm (ik .i64) x.fs.fDilations), .v (.int .i64 x.fs.fAuto), .v (.bool x.fs.fCeil), .v (.bool x.fs.fCount), .v (.int .i64 x.fs.fBlock), .v (.int .i64 x.fs.fStart), .v (.int .i64 x.fs.fEnd), .v (.bool x.fs.fHasEnd), .v (.int .i64 x.fs.fValue.fType), .arr x.fs.fValue.fDims.length (lm (ik .i64) x.fs.fValue.fDims), .arr x.fs.fValue.fF.length (lm (ik .u32) x.fs.fValue.fF), .arr x.fs.fValue.fI.length (lm (ik .i64) x.fs.fValue.fI), .arr x.fs.fValue.fB.length (lm (bk) x.fs.fValue.fB), .arr x.fin.length (fm c_T_Val x.fin), .v (.int .i64 x.fouts)] := rfl
theorem c_T_conv_axis_at {x : T_conv_axis} : c_T_conv_axis x = [.v (.int .i64 x.fsize), .v (.int .i64 x.fkernel), .v (.int .i64 x.fstride), .v (.int .i64 x.fdilation), .v (.int .i64 x.fahead), .v (.int .i64 x.fwindows)] := rfl
theorem c_T_conv_work_at {x : T_conv_work} : c_T_conv_work x = [.v (.int .i64 x.fs.fAxis), .arr x.fs.fAxes.length (lm (ik .i64) x.fs.fAxes), .v (.bool x.fs.fHasAxes), .v (.bool x.fs.fKeep), .v (.bool x.fs.fNoop), .v (.bool x.fs.fLast), .v (.bool x.fs.fZero), .arr x.fs.fPerm.length (lm (ik .i64) x.fs.fPerm), .v (.bool x.fs.fHasPerm), .v (.int .u32 x.fs.fAlpha), .v (.int .u32 x.fs.fBeta), .v (.int .u32 x.fs.fEpsilon), .v (.bool x.fs.fLow), .v (.bool x.fs.fHigh), .v (.bool x.fs.fFmod), .v (.int .i64 x.fs.fTo), .v (.int .i64 x.fs.fMode), .v (.bool x.fs.fTransA), .v (.bool x.fs.fTransB), .v (.int .i64 x.fs.fGroup), .arr x.fs.fKernel.length (lm (ik .i64) x.fs.fKernel), .arr x.fs.fStrides.length (lm (ik .i64) x.fs.fStrides), .arr x.fs.fPads.length (lm (ik .i64) x.fs.fPads), .arr x.fs.fDilations.length (lm (ik .i64) x.fs.fDilations), .v (.int .i64 x.fs.fAuto), .v (.bool x.fs.fCeil), .v (.bool x.fs.fCount), .v (.int .i64 x.fs.fBlock), .v (.int .i64 x.fs.fStart), .v (.int .i64 x.fs.fEnd), .v (.bool x.fs.fHasEnd), .v (.int .i64 x.fs.fValue.fType), .arr x.fs.fValue.fDims.length (lm (ik .i64) x.fs.fValue.fDims), .arr x.fs.fValue.fF.length (lm (ik .u32) x.fs.fValue.fF), .arr x.fs.fValue.fI.length (lm (ik .i64) x.fs.fValue.fI), .arr x.fs.fValue.fB.length (lm (bk) x.fs.fValue.fB), .arr x.fin.length (fm c_T_Tensor x.fin), .arr x.fdims.length (lm (ik .i64) x.fdims), .v (.int .i64 x.fh.fsize), .v (.int .i64 x.fh.fkernel), .v (.int .i64 x.fh.fstride), .v (.int .i64 x.fh.fdilation), .v (.int .i64 x.fh.fahead), .v (.int .i64 x.fh.fwindows), .v (.int .i64 x.fw.fsize), .v (.int .i64 x.fw.fkernel), .v (.int .i64 x.fw.fstride), .v (.int .i64 x.fw.fdilation), .v (.int .i64 x.fw.fahead), .v (.int .i64 x.fw.fwindows)] := rfl
theorem c_T_soft_number_at {x : T_soft_number} : c_T_soft_number x = [.v (.bool x.fneg), .v (.bool x.fnan), .v (.bool x.finf), .v (.int .i64 x.fexp), .v (.int .u64 x.fsig)] := rfl
theorem c_T_Tensor_inj : Inj c_T_Tensor := by
  intro a b h
  obtain ⟨a0, a1, a2, a3, a4⟩ := a
  obtain ⟨b0, b1, b2, b3, b4⟩ := b
  simp only [c_T_Tensor_at, INJ] at h
  simp_all
theorem c_T_Setting_inj : Inj c_T_Setting := by
  intro a b h
  obtain ⟨a0, a1, a2, a3, a4, a5, a6, a7, a8, a9, a10, a11, a12, a13, a14, a15, a16, a17, a18, a19, a20, a21, a22, a23, a24, a25, a26, a27, a28, a29, a30, ⟨a_310, a_311, a_312, a_313, a_314⟩⟩ := a
  obtain ⟨b0, b1, b2, b3, b4, b5, b6, b7, b8, b9, b10, b11, b12, b13, b14, b15, b16, b17, b18, b19, b20, b21, b22, b23, b24, b25, b26, b27, b28, b29, b30, ⟨b_310, b_311, b_312, b_313, b_314⟩⟩ := b
  simp only [c_T_Setting_at, INJ, @c_inj_iff _ _ c_T_Tensor_inj, @lm_inj_iff _ _ (inj_avf (inj_fm c_T_Tensor_len (by decide) c_T_Tensor_inj)), @fm_inj_iff _ _ (inj_fm c_T_Tensor_len (by decide) c_T_Tensor_inj)] at h
  simp_all
theorem c_T_Val_inj : Inj c_T_Val := by
  intro a b h
  obtain ⟨a0, a1, a2, ⟨a_30, a_31, a_32, a_33, a_34⟩⟩ := a
  obtain ⟨b0, b1, b2, ⟨b_30, b_31, b_32, b_33, b_34⟩⟩ := b
  simp only [c_T_Val_at, INJ, @c_inj_iff _ _ c_T_Tensor_inj, @lm_inj_iff _ _ (inj_avf (inj_fm c_T_Tensor_len (by decide) c_T_Tensor_inj)), @fm_inj_iff _ _ (inj_fm c_T_Tensor_len (by decide) c_T_Tensor_inj), @c_inj_iff _ _ c_T_Setting_inj, @lm_inj_iff _ _ (inj_avf (inj_fm c_T_Setting_len (by decide) c_T_Setting_inj)), @fm_inj_iff _ _ (inj_fm c_T_Setting_len (by decide) c_T_Setting_inj)] at h
  simp_all
theorem c_T_infer_ask_inj : Inj c_T_infer_ask := by
  intro a b h
  obtain ⟨a0, ⟨a_10, a_11, a_12, a_13, a_14, a_15, a_16, a_17, a_18, a_19, a_110, a_111, a_112, a_113, a_114, a_115, a_116, a_117, a_118, a_119, a_120, a_121, a_122, a_123, a_124, a_125, a_126, a_127, a_128, a_129, a_130, ⟨a_1_310, a_1_311, a_1_312, a_1_313, a_1_314⟩⟩, a2, a3⟩ := a
  obtain ⟨b0, ⟨b_10, b_11, b_12, b_13, b_14, b_15, b_16, b_17, b_18, b_19, b_110, b_111, b_112, b_113, b_114, b_115, b_116, b_117, b_118, b_119, b_120, b_121, b_122, b_123, b_124, b_125, b_126, b_127, b_128, b_129, b_130, ⟨b_1_310, b_1_311, b_1_312, b_1_313, b_1_314⟩⟩, b2, b3⟩ := b
  simp only [c_T_infer_ask_at, INJ, @c_inj_iff _ _ c_T_Tensor_inj, @lm_inj_iff _ _ (inj_avf (inj_fm c_T_Tensor_len (by decide) c_T_Tensor_inj)), @fm_inj_iff _ _ (inj_fm c_T_Tensor_len (by decide) c_T_Tensor_inj), @c_inj_iff _ _ c_T_Setting_inj, @lm_inj_iff _ _ (inj_avf (inj_fm c_T_Setting_len (by decide) c_T_Setting_inj)), @fm_inj_iff _ _ (inj_fm c_T_Setting_len (by decide) c_T_Setting_inj), @c_inj_iff _ _ c_T_Val_inj, @lm_inj_iff _ _ (inj_avf (inj_fm c_T_Val_len (by decide) c_T_Val_inj)), @fm_inj_iff _ _ (inj_fm c_T_Val_len (by decide) c_T_Val_inj)] at h
  simp_all
theorem c_T_conv_axis_inj : Inj c_T_conv_axis := by
  intro a b h
  obtain ⟨a0, a1, a2, a3, a4, a5⟩ := a
  obtain ⟨b0, b1, b2, b3, b4, b5⟩ := b
  simp only [c_T_conv_axis_at, INJ, @c_inj_iff _ _ c_T_Tensor_inj, @lm_inj_iff _ _ (inj_avf (inj_fm c_T_Tensor_len (by decide) c_T_Tensor_inj)), @fm_inj_iff _ _ (inj_fm c_T_Tensor_len (by decide) c_T_Tensor_inj), @c_inj_iff _ _ c_T_Setting_inj, @lm_inj_iff _ _ (inj_avf (inj_fm c_T_Setting_len (by decide) c_T_Setting_inj)), @fm_inj_iff _ _ (inj_fm c_T_Setting_len (by decide) c_T_Setting_inj), @c_inj_iff _ _ c_T_Val_inj, @lm_inj_iff _ _ (inj_avf (inj_fm c_T_Val_len (by decide) c_T_Val_inj)), @fm_inj_iff _ _ (inj_fm c_T_Val_len (by decide) c_T_Val_inj), @c_inj_iff _ _ c_T_infer_ask_inj, @lm_inj_iff _ _ (inj_avf (inj_fm c_T_infer_ask_len (by decide) c_T_infer_ask_inj)), @fm_inj_iff _ _ (inj_fm c_T_infer_ask_len (by decide) c_T_infer_ask_inj)] at h
  simp_all
theorem c_T_conv_work_inj : Inj c_T_conv_work := by
  intro a b h
  obtain ⟨⟨a_00, a_01, a_02, a_03, a_04, a_05, a_06, a_07, a_08, a_09, a_010, a_011, a_012, a_013, a_014, a_015, a_016, a_017, a_018, a_019, a_020, a_021, a_022, a_023, a_024, a_025, a_026, a_027, a_028, a_029, a_030, ⟨a_0_310, a_0_311, a_0_312, a_0_313, a_0_314⟩⟩, a1, a2, ⟨a_30, a_31, a_32, a_33, a_34, a_35⟩, ⟨a_40, a_41, a_42, a_43, a_44, a_45⟩⟩ := a
  obtain ⟨⟨b_00, b_01, b_02, b_03, b_04, b_05, b_06, b_07, b_08, b_09, b_010, b_011, b_012, b_013, b_014, b_015, b_016, b_017, b_018, b_019, b_020, b_021, b_022, b_023, b_024, b_025, b_026, b_027, b_028, b_029, b_030, ⟨b_0_310, b_0_311, b_0_312, b_0_313, b_0_314⟩⟩, b1, b2, ⟨b_30, b_31, b_32, b_33, b_34, b_35⟩, ⟨b_40, b_41, b_42, b_43, b_44, b_45⟩⟩ := b
  simp only [c_T_conv_work_at, INJ, @c_inj_iff _ _ c_T_Tensor_inj, @lm_inj_iff _ _ (inj_avf (inj_fm c_T_Tensor_len (by decide) c_T_Tensor_inj)), @fm_inj_iff _ _ (inj_fm c_T_Tensor_len (by decide) c_T_Tensor_inj), @c_inj_iff _ _ c_T_Setting_inj, @lm_inj_iff _ _ (inj_avf (inj_fm c_T_Setting_len (by decide) c_T_Setting_inj)), @fm_inj_iff _ _ (inj_fm c_T_Setting_len (by decide) c_T_Setting_inj), @c_inj_iff _ _ c_T_Val_inj, @lm_inj_iff _ _ (inj_avf (inj_fm c_T_Val_len (by decide) c_T_Val_inj)), @fm_inj_iff _ _ (inj_fm c_T_Val_len (by decide) c_T_Val_inj), @c_inj_iff _ _ c_T_infer_ask_inj, @lm_inj_iff _ _ (inj_avf (inj_fm c_T_infer_ask_len (by decide) c_T_infer_ask_inj)), @fm_inj_iff _ _ (inj_fm c_T_infer_ask_len (by decide) c_T_infer_ask_inj), @c_inj_iff _ _ c_T_conv_axis_inj, @lm_inj_iff _ _ (inj_avf (inj_fm c_T_conv_axis_len (by decide) c_T_conv_axis_inj)), @fm_inj_iff _ _ (inj_fm c_T_conv_axis_len (by decide) c_T_conv_axis_inj)] at h
  simp_all
theorem c_T_soft_number_inj : Inj c_T_soft_number := by
  intro a b h
  obtain ⟨a0, a1, a2, a3, a4⟩ := a
  obtain ⟨b0, b1, b2, b3, b4⟩ := b
  simp only [c_T_soft_number_at, INJ, @c_inj_iff _ _ c_T_Tensor_inj, @lm_inj_iff _ _ (inj_avf (inj_fm c_T_Tensor_len (by decide) c_T_Tensor_inj)), @fm_inj_iff _ _ (inj_fm c_T_Tensor_len (by decide) c_T_Tensor_inj), @c_inj_iff _ _ c_T_Setting_inj, @lm_inj_iff _ _ (inj_avf (inj_fm c_T_Setting_len (by decide) c_T_Setting_inj)), @fm_inj_iff _ _ (inj_fm c_T_Setting_len (by decide) c_T_Setting_inj), @c_inj_iff _ _ c_T_Val_inj, @lm_inj_iff _ _ (inj_avf (inj_fm c_T_Val_len (by decide) c_T_Val_inj)), @fm_inj_iff _ _ (inj_fm c_T_Val_len (by decide) c_T_Val_inj), @c_inj_iff _ _ c_T_infer_ask_inj, @lm_inj_iff _ _ (inj_avf (inj_fm c_T_infer_ask_len (by decide) c_T_infer_ask_inj)), @fm_inj_iff _ _ (inj_fm c_T_infer_ask_len (by decide) c_T_infer_ask_inj), @c_inj_iff _ _ c_T_conv_axis_inj, @lm_inj_iff _ _ (inj_avf (inj_fm c_T_conv_axis_len (by decide) c_T_conv_axis_inj)), @fm_inj_iff _ _ (inj_fm c_T_conv_axis_len (by decide) c_T_conv_axis_inj), @c_inj_iff _ _ c_T_conv_work_inj, @lm_inj_iff _ _ (inj_avf (inj_fm c_T_conv_work_len (by decide) c_T_conv_work_inj)), @fm_inj_iff _ _ (inj_fm c_T_conv_work_len (by decide) c_T_conv_work_inj)] at h
  simp_all
def TT0 := And.intro @ts2 <| And.intro @pt2 <| And.intro @st2 <| And.intro @ts3 <| And.intro @pt3 <| And.intro @st3 <| And.intro @ts4 <| And.intro @pt4 <| And.intro @sb4 <| And.intro @ts5 <| And.intro @pt5 <| And.intro @st5 <| And.intro @ts9 <| And.intro @pt9 <| And.intro @le9 <| And.intro @ix9 <| And.intro @ts22 <| And.intro @pt22 <| And.intro @ia22 <| And.intro @io22 <| And.intro @le22 <| And.intro @mk22 <| And.intro @ap22 <| And.intro @bs22 <| And.intro @ao22 <| And.intro @as22 <| And.intro @sa22 <| And.intro @so22 <| And.intro @ts23 <| And.intro @pt23 <| And.intro @st23 <| And.intro @ts24 <| And.intro @pt24 <| And.intro @ia24 <| And.intro @io24 <| And.intro @le24 <| And.intro @mk24 <| And.intro @ap24 <| And.intro @bs24 <| @sa24
def TT1 := And.intro @so24 <| And.intro @ts25 <| And.intro @pt25 <| And.intro @ia25 <| And.intro @io25 <| And.intro @le25 <| And.intro @mk25 <| And.intro @ap25 <| And.intro @bs25 <| And.intro @sa25 <| And.intro @so25 <| And.intro @ts26 <| And.intro @pt26 <| And.intro @ia26 <| And.intro @io26 <| And.intro @le26 <| And.intro @mk26 <| And.intro @ap26 <| And.intro @bs26 <| And.intro @sa26 <| And.intro @so26 <| And.intro @ts28 <| And.intro @pt28 <| And.intro @sg28 <| And.intro @ts30 <| And.intro @pt30 <| And.intro @sg30 <| And.intro @ts32 <| And.intro @pt32 <| And.intro @st32 <| And.intro @ts35 <| And.intro @pt35 <| And.intro @ia35 <| And.intro @io35 <| And.intro @le35 <| And.intro @ap35 <| And.intro @af35 <| And.intro @bs35 <| And.intro @sa35 <| @so35
def TT2 := And.intro @ts63 <| And.intro @pt63 <| And.intro @sg63 <| And.intro @ts70 <| And.intro @pt70 <| And.intro @ts73 <| And.intro @pt73 <| And.intro @ia73 <| And.intro @io73 <| And.intro @le73 <| And.intro @ap73 <| And.intro @af73 <| And.intro @bs73 <| And.intro @sa73 <| And.intro @so73 <| And.intro @ts78 <| And.intro @pt78 <| And.intro @sg78 <| And.intro @ts86 <| And.intro @pt86 <| And.intro @st86 <| And.intro @ts96 <| And.intro @pt96 <| And.intro @sg96 <| And.intro @ts98 <| And.intro @pt98 <| And.intro @ia98 <| And.intro @io98 <| And.intro @le98 <| And.intro @bs98 <| And.intro @sa98 <| And.intro @so98 <| And.intro @ts119 <| And.intro @pt119 <| And.intro @sg119 <| And.intro @fo28_0 <| And.intro @fp28_0 <| And.intro @fr28_0 <| And.intro @fo28_1 <| @fp28_1
def TT3 := And.intro @fr28_1 <| And.intro @fo28_2 <| And.intro @fp28_2 <| And.intro @fr28_2 <| And.intro @fo28_3 <| And.intro @fp28_3 <| And.intro @fr28_3 <| And.intro @fo28_4 <| And.intro @fp28_4 <| And.intro @fr28_4 <| And.intro @fo30_19 <| And.intro @fp30_19 <| And.intro @fr30_19 <| And.intro @fo30_20 <| And.intro @fp30_20 <| And.intro @fr30_20 <| And.intro @fo30_21 <| And.intro @fp30_21 <| And.intro @fr30_21 <| And.intro @fo30_22 <| And.intro @fp30_22 <| And.intro @fr30_22 <| And.intro @fo30_23 <| And.intro @fp30_23 <| And.intro @fr30_23 <| And.intro @fo30_24 <| And.intro @fp30_24 <| And.intro @fr30_24 <| And.intro @fo30_25 <| And.intro @fp30_25 <| And.intro @fr30_25 <| And.intro @fo63_0 <| And.intro @fp63_0 <| And.intro @fr63_0 <| And.intro @fo63_1 <| And.intro @fp63_1 <| And.intro @fr63_1 <| And.intro @fo63_2 <| And.intro @fp63_2 <| @fr63_2
def TT4 := And.intro @fo63_3 <| And.intro @fp63_3 <| And.intro @fr63_3 <| And.intro @fo63_4 <| And.intro @fp63_4 <| And.intro @fr63_4 <| And.intro @fo63_5 <| And.intro @fp63_5 <| And.intro @fr63_5 <| And.intro @fo70_0 <| And.intro @fp70_0 <| And.intro @fr70_0 <| And.intro @fo70_1 <| And.intro @fp70_1 <| And.intro @fr70_1 <| And.intro @fo70_2 <| And.intro @fp70_2 <| And.intro @fr70_2 <| And.intro @fo70_3 <| And.intro @fp70_3 <| And.intro @fr70_3 <| And.intro @fo70_4 <| And.intro @fp70_4 <| And.intro @fr70_4 <| And.intro @fo78_0 <| And.intro @fp78_0 <| And.intro @fr78_0 <| And.intro @fd78_0 <| And.intro @fo78_1 <| And.intro @fp78_1 <| And.intro @fr78_1 <| And.intro @fd78_1 <| And.intro @fo78_2 <| And.intro @fp78_2 <| And.intro @fr78_2 <| And.intro @fo78_3 <| And.intro @fp78_3 <| And.intro @fr78_3 <| And.intro @fo96_0 <| @fp96_0
def TT5 := And.intro @fr96_0 <| And.intro @fo96_1 <| And.intro @fp96_1 <| And.intro @fr96_1 <| And.intro @fo96_2 <| And.intro @fp96_2 <| And.intro @fr96_2 <| And.intro @fo96_3 <| And.intro @fp96_3 <| And.intro @fr96_3 <| And.intro @fo119_0 <| And.intro @fp119_0 <| And.intro @fr119_0 <| And.intro @fo119_1 <| And.intro @fp119_1 <| And.intro @fr119_1 <| And.intro @fo119_2 <| And.intro @fp119_2 <| And.intro @fr119_2 <| And.intro @fo119_3 <| And.intro @fp119_3 <| And.intro @fr119_3 <| And.intro @fo119_4 <| And.intro @fp119_4 <| And.intro @fr119_4 <| And.intro @bl28 <| And.intro @fl28_0 <| And.intro @fl28_1 <| And.intro @fl28_2 <| And.intro @fl28_3 <| And.intro @fl28_4 <| And.intro @bl30 <| And.intro @fl30_19 <| And.intro @fl30_20 <| And.intro @fl30_21 <| And.intro @fl30_22 <| And.intro @fl30_23 <| And.intro @fl30_24 <| And.intro @fl30_25 <| @bl63
def TT6 := And.intro @fl63_0 <| And.intro @fl63_1 <| And.intro @fl63_2 <| And.intro @fl63_3 <| And.intro @fl63_4 <| And.intro @fl63_5 <| And.intro @bl70 <| And.intro @fl70_0 <| And.intro @fl70_1 <| And.intro @fl70_2 <| And.intro @fl70_3 <| And.intro @fl70_4 <| And.intro @bl78 <| And.intro @fl78_0 <| And.intro @fl78_1 <| And.intro @fl78_2 <| And.intro @fl78_3 <| And.intro @bl96 <| And.intro @fl96_0 <| And.intro @fl96_1 <| And.intro @fl96_2 <| And.intro @fl96_3 <| And.intro @bl119 <| And.intro @fl119_0 <| And.intro @fl119_1 <| And.intro @fl119_2 <| And.intro @fl119_3 <| And.intro @fl119_4 <| And.intro @al28 <| And.intro @aq28 <| And.intro @al30 <| And.intro @aq30 <| And.intro @al63 <| And.intro @aq63 <| And.intro @al78 <| And.intro @aq78 <| And.intro @al96 <| And.intro @aq96 <| And.intro @al119 <| @aq119
def TT7 := And.intro @ab4 <| And.intro @cv3_86 <| And.intro @cv5_3 <| And.intro @cv23_3 <| And.intro @cv23_86 <| And.intro @cv86_5 <| And.intro @cv86_23 <| And.intro @ty22 <| And.intro @ty24 <| And.intro @ty25 <| And.intro @ty26 <| And.intro @ty28 <| And.intro @ty63 <| And.intro @ty73 <| And.intro @ty78 <| And.intro @ty98 <| And.intro @ty119 <| And.intro @c_T_Tensor_at <| And.intro (fun l => @one_fm _ c_T_Tensor l c_T_Tensor_one) <| And.intro @c_T_Setting_at <| And.intro (fun l => @one_fm _ c_T_Setting l c_T_Setting_one) <| And.intro @c_T_Val_at <| And.intro (fun l => @one_fm _ c_T_Val l c_T_Val_one) <| And.intro @c_T_infer_ask_at <| And.intro (fun l => @one_fm _ c_T_infer_ask l c_T_infer_ask_one) <| And.intro @c_T_conv_axis_at <| And.intro (fun l => @one_fm _ c_T_conv_axis l c_T_conv_axis_one) <| And.intro @c_T_conv_work_at <| And.intro (fun l => @one_fm _ c_T_conv_work l c_T_conv_work_one) <| And.intro @c_T_soft_number_at <| (fun l => @one_fm _ c_T_soft_number l c_T_soft_number_one)
def TT := And.intro @TT0 <| And.intro @TT1 <| And.intro @TT2 <| And.intro @TT3 <| And.intro @TT4 <| And.intro @TT5 <| And.intro @TT6 <| @TT7
def OF := And.intro (fun l => @one_fm _ c_T_Tensor l c_T_Tensor_one) <| And.intro (fun l => @one_fm _ c_T_Setting l c_T_Setting_one) <| And.intro (fun l => @one_fm _ c_T_Val l c_T_Val_one) <| And.intro (fun l => @one_fm _ c_T_infer_ask l c_T_infer_ask_one) <| And.intro (fun l => @one_fm _ c_T_conv_axis l c_T_conv_axis_one) <| And.intro (fun l => @one_fm _ c_T_conv_work l c_T_conv_work_one) <| (fun l => @one_fm _ c_T_soft_number l c_T_soft_number_one)
def NT := And.intro @c_T_Tensor_at <| And.intro @c_T_Setting_at <| And.intro @c_T_Val_at <| And.intro @c_T_infer_ask_at <| And.intro @c_T_conv_axis_at <| And.intro @c_T_conv_work_at <| @c_T_soft_number_at
def OZ := And.intro LN <| And.intro RO OF
theorem Zd {p : Prop} (h : p := by first | assumption | decide | with_unfolding_all rfl | omega | simp only [OZ] <;> omega | fail) : p := h
def ZZ := And.intro RR <| And.intro RM <| And.intro LN <| And.intro TT RH
def IJ := And.intro (@c_inj_iff _ _ c_T_Tensor_inj) <| And.intro (@lm_inj_iff _ _ (inj_avf (inj_fm c_T_Tensor_len (by decide) c_T_Tensor_inj))) <| And.intro (@fm_inj_iff _ _ (inj_fm c_T_Tensor_len (by decide) c_T_Tensor_inj)) <| And.intro (@c_inj_iff _ _ c_T_Setting_inj) <| And.intro (@lm_inj_iff _ _ (inj_avf (inj_fm c_T_Setting_len (by decide) c_T_Setting_inj))) <| And.intro (@fm_inj_iff _ _ (inj_fm c_T_Setting_len (by decide) c_T_Setting_inj)) <| And.intro (@c_inj_iff _ _ c_T_Val_inj) <| And.intro (@lm_inj_iff _ _ (inj_avf (inj_fm c_T_Val_len (by decide) c_T_Val_inj))) <| And.intro (@fm_inj_iff _ _ (inj_fm c_T_Val_len (by decide) c_T_Val_inj)) <| And.intro (@c_inj_iff _ _ c_T_infer_ask_inj) <| And.intro (@lm_inj_iff _ _ (inj_avf (inj_fm c_T_infer_ask_len (by decide) c_T_infer_ask_inj))) <| And.intro (@fm_inj_iff _ _ (inj_fm c_T_infer_ask_len (by decide) c_T_infer_ask_inj)) <| And.intro (@c_inj_iff _ _ c_T_conv_axis_inj) <| And.intro (@lm_inj_iff _ _ (inj_avf (inj_fm c_T_conv_axis_len (by decide) c_T_conv_axis_inj))) <| And.intro (@fm_inj_iff _ _ (inj_fm c_T_conv_axis_len (by decide) c_T_conv_axis_inj)) <| And.intro (@c_inj_iff _ _ c_T_conv_work_inj) <| And.intro (@lm_inj_iff _ _ (inj_avf (inj_fm c_T_conv_work_len (by decide) c_T_conv_work_inj))) <| And.intro (@fm_inj_iff _ _ (inj_fm c_T_conv_work_len (by decide) c_T_conv_work_inj)) <| And.intro (@c_inj_iff _ _ c_T_soft_number_inj) <| And.intro (@lm_inj_iff _ _ (inj_avf (inj_fm c_T_soft_number_len (by decide) c_T_soft_number_inj))) <| (@fm_inj_iff _ _ (inj_fm c_T_soft_number_len (by decide) c_T_soft_number_inj))
/-! 9: lattice/latticelaw15.floats -/
open Aw (d9)
def d9_at := by have h := tabL Aw.d9.eq_1; simp only [AllAt, Nat.zero_add, Nat.reduceAdd] at h; exact h
theorem i9 : finfo Tryz.prog 9 d9 = some ⟨bodyOf Tryz.f9, [.cell 4 28], [28]⟩ := finfo_at Tryz.func9 rfl (by kernel_rfl) (by kernel_rfl)
def e9 : T_Tensor → AV := fun r => .agg [.v (.int .i64 r.fType), .arr r.fDims.length (lm (ik .i64) r.fDims), .arr r.fF.length (lm (ik .u32) r.fF), .arr r.fI.length (lm (ik .i64) r.fI), .arr r.fB.length (lm (bk) r.fB)]
set_option maxHeartbeats 20000000 in
theorem w9 (cp : CallP) (fu : Nat) (x1 : List Int) (x2 : List Int) : J (go Tryz.prog noC cp noI 0 [] d9 fu (finS Tryz.prog [.cell 4 28] [28]) (bodyOf Tryz.f9) (initE 0 [.arr x1.length (lm (ik .i64) x1), .arr x2.length (lm (ik .u32) x2)]) [] []) (law15_floats fu x1 x2) e9 := by
 unfold law15_floats e9
 refine J.some ?_
 simp (maxSteps := 20000000) (disch := first | exact Zd | fail) only [bodyOf, Tryz.f9, ZZ, d9_at, simprocAttr, SE, FF, LN, NN, NT]
noncomputable def t9 (fu : Nat) : CallP := noP
theorem t9_ok (fu : Nat) : CpOK Tryz.prog (t9 fu ) := noP_ok
theorem ok9 (fu : Nat) (x1 : List Int) (x2 : List Int) (r) (h : law15_floats fu x1 x2 = some r) : PureOK Tryz.prog 9 [.arr x1.length (lm (ik .i64) x1), .arr x2.length (lm (ik .u32) x2)] (e9 r) :=
  pureS_J mixed (cp := t9 fu ) (t9_ok fu  ) noI_ok i9 (w9 _ fu x1 x2  ) h
/-! 34: lattice/conv.Has -/
open Aw (d34)
def d34_at := by have h := tabL Aw.d34.eq_1; simp only [AllAt, Nat.zero_add, Nat.reduceAdd] at h; exact h
theorem i34 : finfo Tryz.prog 34 d34 = some ⟨bodyOf Tryz.f34, [.tmp 2], [4]⟩ := finfo_at Tryz.func34 rfl (by kernel_rfl) (by kernel_rfl)
def e34 : Bool → AV := fun r => .v (.bool r)
set_option maxHeartbeats 20000000 in
theorem w34 (cp : CallP) (fu : Nat) (x1 : Int) : J (go Tryz.prog noC cp noI 0 [] d34 fu (fin Tryz.prog [.tmp 2] [4]) (bodyOf Tryz.f34) (initE 0 [.v (.int .i64 x1)]) [] []) (conv_Has fu x1) e34 := by
 unfold conv_Has e34
 refine J.chk fun h1 => ?_
 refine J.some ?_
 simp (maxSteps := 20000000) (disch := first | exact Zd | fail) only [bodyOf, Tryz.f34, ZZ, d34_at, simprocAttr, h1, FF, LN, NN, NT]
noncomputable def t34 (fu : Nat) : CallP := noP
theorem t34_ok (fu : Nat) : CpOK Tryz.prog (t34 fu ) := noP_ok
theorem ok34 (fu : Nat) (x1 : Int) (r) (h : conv_Has fu x1 = some r) : PureOK Tryz.prog 34 [.v (.int .i64 x1)] (e34 r) :=
  pure_J mixed (cp := t34 fu ) (t34_ok fu  ) noI_ok i34 (w34 _ fu x1  ) h
/-! 80: lattice/tens.Width -/
open Aw (d80)
def d80_at := by have h := tabL Aw.d80.eq_1; simp only [AllAt, Nat.zero_add, Nat.reduceAdd] at h; exact h
theorem i80 : finfo Tryz.prog 80 d80 = some ⟨bodyOf Tryz.f80, [.tmp 2], [3]⟩ := finfo_at Tryz.func80 rfl (by kernel_rfl) (by kernel_rfl)
def e80 : Int → AV := fun r => .v (.int .i64 r)
set_option maxHeartbeats 20000000 in
theorem w80 (cp : CallP) (fu : Nat) (x1 : Int) : J (go Tryz.prog noC cp noI 0 [] d80 fu (fin Tryz.prog [.tmp 2] [3]) (bodyOf Tryz.f80) (initE 0 [.v (.int .i64 x1)]) [] []) (tens_Width fu x1) e80 := by
 unfold tens_Width e80
 conv => arg 1; simp (disch := first | exact Zd | fail) only [bodyOf, Tryz.f80, ZZ, d80_at, simprocAttr]
 refine J.eq go_seq ?_
 conv => arg 1; simp (disch := first | exact Zd | fail) only [ZZ, d80_at, simprocAttr]
 refine J.ite (fun h1 => ?_) (fun h1 => ?_)
 ·have h1' := decide_eq_true h1
  refine J.some ?_
  simp (maxSteps := 20000000) (disch := first | exact Zd | fail) only [ZZ, d80_at, simprocAttr, h1', FF, LN, NN, NT]
 ·have h1' := decide_eq_false h1
  conv => arg 1; simp (disch := first | exact Zd | fail) only [ZZ, d80_at, simprocAttr, h1']
  refine J.ite (fun h2 => ?_) (fun h2 => ?_)
  ·have h2' := decide_eq_true h2
   refine J.some ?_
   simp (maxSteps := 20000000) (disch := first | exact Zd | fail) only [ZZ, d80_at, simprocAttr, h1', h2', FF, LN, NN, NT]
  ·have h2' := decide_eq_false h2
   conv => arg 1; simp (disch := first | exact Zd | fail) only [ZZ, d80_at, simprocAttr, h1', h2']
   refine J.ite (fun h3 => ?_) (fun h3 => ?_)
   ·have h3' := decide_eq_true h3
    refine J.some ?_
    simp (maxSteps := 20000000) (disch := first | exact Zd | fail) only [ZZ, d80_at, simprocAttr, h1', h2', h3', FF, LN, NN, NT]
   ·have h3' := decide_eq_false h3
    conv => arg 1; simp (disch := first | exact Zd | fail) only [ZZ, d80_at, simprocAttr, h1', h2', h3']
    refine J.eq ret_seq ?_
    refine J.some ?_
    simp (maxSteps := 20000000) (disch := first | exact Zd | fail) only [ZZ, d80_at, simprocAttr, h1', h2', h3', FF, LN, NN, NT]
noncomputable def t80 (fu : Nat) : CallP := noP
theorem t80_ok (fu : Nat) : CpOK Tryz.prog (t80 fu ) := noP_ok
theorem ok80 (fu : Nat) (x1 : Int) (r) (h : tens_Width fu x1 = some r) : PureOK Tryz.prog 80 [.v (.int .i64 x1)] (e80 r) :=
  pure_J mixed (cp := t80 fu ) (t80_ok fu  ) noI_ok i80 (w80 _ fu x1  ) h
/-! 63: lattice/tens.known -/
open Aw (d63)
def d63_at := by have h := tabL Aw.d63.eq_1; simp only [AllAt, Nat.zero_add, Nat.reduceAdd] at h; exact h
theorem i63 : finfo Tryz.prog 63 d63 = some ⟨bodyOf Tryz.f63, [.tmp 2], [4]⟩ := finfo_at Tryz.func63 rfl (by kernel_rfl) (by kernel_rfl)
def e63 : Bool → AV := fun r => .v (.bool r)
set_option maxHeartbeats 20000000 in
theorem w63 (cp : CallP) (fu : Nat) (x1 : Int) (H80_0 : ∀ (a0 : Int) r, tens_Width fu a0 = some r → cp 80 [.v (.int .i64 a0)] = some (.v (.int .i64 r))) : J (go Tryz.prog noC cp noI 0 [] d63 fu (fin Tryz.prog [.tmp 2] [4]) (bodyOf Tryz.f63) (initE 0 [.v (.int .i64 x1)]) [] []) (tens_known fu x1) e63 := by
 unfold tens_known e63
 refine J.bind fun x2 h1 => ?_
 have e_h1 := H80_0 _ _ h1
 try simp only [NN, NT, LN, simprocAttr, DT] at e_h1
 refine J.some ?_
 simp (maxSteps := 20000000) (disch := first | exact Zd | fail) only [bodyOf, Tryz.f63, ZZ, d63_at, simprocAttr, e_h1, FF, LN, NN, NT]
noncomputable def t63 (fu : Nat) : CallP := orE 80 (mkC (fun (t : Int) => ([.v (.int .i64 t)] : List AV)) (fun t => tens_Width fu t) e80) (noP)
theorem t63_ok (fu : Nat) : CpOK Tryz.prog (t63 fu ) := orE_ok (noP_ok) (mkC_ok (fun t b h => ok80 fu t  b h))
theorem ok63 (fu : Nat) (x1 : Int) (r) (h : tens_known fu x1 = some r) : PureOK Tryz.prog 63 [.v (.int .i64 x1)] (e63 r) :=
  pure_J mixed (cp := t63 fu ) (t63_ok fu  ) noI_ok i63 (w63 _ fu x1  (fun a0 r h => orE_hit (mkC_at (a := a0) (by intro a b h; first | (exact rfl) | (simp only [INJ, IJ] at h; first | exact h | (simp_all [Prod.ext_iff]) )) h))) h
/-! 77: slices.IndexFunc[[]int,int] -/
open Aw (d77)
def d77_at := by have h := tabL Aw.d77.eq_1; simp only [AllAt, Nat.zero_add, Nat.reduceAdd] at h; exact h
theorem i77 : finfo Tryz.prog 77 d77 = some ⟨bodyOf Tryz.f77, [.tmp 4], [3]⟩ := finfo_at Tryz.func77 rfl (by kernel_rfl) (by kernel_rfl)
def e77 : Int → AV := fun r => .v (.int .i64 r)
set_option maxHeartbeats 20000000 in
theorem w77 (cp : CallP) (fu : Nat) (x1 : List Int) (p1 : Int → Option Bool) (fv_p1 : FuncId) (ca_p1 : List AV) (cap_p1 : Capt ca_p1) (hp_p1 : ∀ (y0 : Int) r, p1 y0 = some r → cp fv_p1 ((.v (.int .i64 y0)) :: ca_p1) = some (.v (.bool r))) : J (go Tryz.prog noC cp noI 0 [] d77 fu (fin Tryz.prog [.tmp 4] [3]) (bodyOf Tryz.f77) (initE 0 [.arr x1.length (lm (ik .i64) x1), .fn fv_p1 [] ca_p1]) [] []) (slices_IndexFunc_int fu x1 p1) e77 := by
 unfold slices_IndexFunc_int e77
 have c4_p1 := fun g => (cap_p1.1 g).1; have c3_p1 := fun g => (cap_p1.1 g).2.1; have b4_p1 := fun g => (cap_p1.1 g).2.2.1; have b3_p1 := fun g => (cap_p1.1 g).2.2.2; have nm_p1 := cap_p1.2
 conv => arg 1; simp (disch := first | exact Zd | fail) only [bodyOf, Tryz.f77, ZZ, d77_at, simprocAttr, c4_p1, c3_p1, b4_p1, b3_p1, nm_p1]
 refine J.eq go_seq ?_
 conv => arg 1; simp (disch := first | exact Zd | fail) only [ZZ, d77_at, simprocAttr, c4_p1, c3_p1, b4_p1, b3_p1, nm_p1]
 unfold slices_IndexFunc_int_W1
 refine J.loop (fun (s : Int) => ([(0, .arr x1.length (lm (ik .i64) x1)), (1, .fn fv_p1 [] ca_p1), (7, .v (.int .i64 (x1.length : Int))), (8, .v (.int .i64 s))], [])) (fun next s => slices_IndexFunc_int_L1 fu p1 x1 next s) (s0 := 0) ?_ ?_ ?_
 ·first | rfl | (simp only [LN, NN, NT])
 ·first | (simp (disch := first | exact Zd | fail) only [RR, simprocAttr, LN, NN, NT]; done) | (simp (disch := first | exact Zd | fail) only [RR, simprocAttr, LN, fm_app, NN, NT]; done) | rfl
 rintro nx1 k1 hn1 x4
 show J _ (slices_IndexFunc_int_L1 fu p1 x1 nx1 x4) _
 unfold slices_IndexFunc_int_L1
 conv => arg 1; simp (disch := first | exact Zd | fail) only [ZZ, d77_at, simprocAttr, c4_p1, c3_p1, b4_p1, b3_p1, nm_p1]
 refine J.eq go_seq ?_
 conv => arg 1; simp (disch := first | exact Zd | fail) only [ZZ, d77_at, simprocAttr, c4_p1, c3_p1, b4_p1, b3_p1, nm_p1]
 refine J.ite (fun h1 => ?_) (fun h1 => ?_)
 ·have h1' := decide_eq_true h1
  have h1'' : decide ((x1.length : Int) ≤ x4) = false := decide_eq_false (by omega)
  conv => arg 1; simp (disch := first | exact Zd | fail) only [ZZ, d77_at, simprocAttr, c4_p1, c3_p1, b4_p1, b3_p1, nm_p1, h1'', h1']
  refine J.eq ret_seq ?_
  refine J.eq go_seq ?_
  refine J.at fun x7 h2 h3 h4 => ?_
  refine J.bind fun x8 h5 => ?_
  have e_h5 := hp_p1 _ _ h5
  try simp only [NN, NT, LN, simprocAttr, DT] at e_h5
  conv => arg 1; simp (disch := first | exact Zd | fail) only [ZZ, d77_at, simprocAttr, c4_p1, c3_p1, b4_p1, b3_p1, nm_p1, h1'', h1', lm_ik h4, e_h5]
  refine J.ite (fun h6 => ?_) (fun h6 => ?_)
  ·have h6' : x8 = true := h6
   refine J.some ?_
   simp (maxSteps := 20000000) (disch := first | exact Zd | fail) only [ZZ, d77_at, simprocAttr, c4_p1, c3_p1, b4_p1, b3_p1, nm_p1, h1'', h1', lm_ik h4, e_h5, h6', FF, LN, NN, NT]
  ·have h6' : x8 = false := Bool.eq_false_iff.2 h6
   conv => arg 1; simp (disch := first | exact Zd | fail) only [ZZ, d77_at, simprocAttr, c4_p1, c3_p1, b4_p1, b3_p1, nm_p1, h1'', h1', lm_ik h4, e_h5, h6']
   refine J.eq ret_seq ?_
   conv => arg 1; simp (disch := first | exact Zd | fail) only [ZZ, d77_at, simprocAttr, c4_p1, c3_p1, b4_p1, b3_p1, nm_p1, h1'', h1', lm_ik h4, e_h5, h6']
   refine J.next (s := wk .i64 (x4 + 1)) hn1 ?_ ?_
   ·first | rfl | (simp only [LN, NN, NT])
   ·first | (simp (disch := first | exact Zd | fail) only [RR, simprocAttr, LN, NN, NT]; done) | (simp (disch := first | exact Zd | fail) only [RR, simprocAttr, LN, fm_app, NN, NT]; done) | rfl
 ·have h1' := decide_eq_false h1
  have h1'' : decide ((x1.length : Int) ≤ x4) = true := decide_eq_true (by omega)
  conv => arg 1; simp (disch := first | exact Zd | fail) only [ZZ, d77_at, simprocAttr, c4_p1, c3_p1, b4_p1, b3_p1, nm_p1, h1'', h1']
  refine J.eq ret_seq ?_
  refine J.some ?_
  simp (maxSteps := 20000000) (disch := first | exact Zd | fail) only [ZZ, d77_at, simprocAttr, c4_p1, c3_p1, b4_p1, b3_p1, nm_p1, h1'', h1', FF, LN, NN, NT]
noncomputable def t77 (fu : Nat) (x1 : List Int) (p1 : Int → Option Bool) (fv_p1 : FuncId) (ca_p1 : List AV) : CallP := orE fv_p1 (mkC (fun (t : Int) => ((.v (.int .i64 t)) :: ca_p1 : List AV)) (fun t => p1 t) (fun r => .v (.bool r))) (noP)
theorem t77_ok (fu : Nat) (x1 : List Int) (p1 : Int → Option Bool) (fv_p1 : FuncId) (ca_p1 : List AV) (cap_p1 : Capt ca_p1) (hp_p1 : ∀ (y0 : Int) r, p1 y0 = some r → PureOK Tryz.prog fv_p1 ((.v (.int .i64 y0)) :: ca_p1) (.v (.bool r))) : CpOK Tryz.prog (t77 fu x1 p1 fv_p1 ca_p1) := orE_ok (noP_ok) (mkC_ok (fun t b h => hp_p1 t b h))
theorem ok77 (fu : Nat) (x1 : List Int) (p1 : Int → Option Bool) (fv_p1 : FuncId) (ca_p1 : List AV) (cap_p1 : Capt ca_p1) (hp_p1 : ∀ (y0 : Int) r, p1 y0 = some r → PureOK Tryz.prog fv_p1 ((.v (.int .i64 y0)) :: ca_p1) (.v (.bool r))) (r) (h : slices_IndexFunc_int fu x1 p1 = some r) : PureOK Tryz.prog 77 [.arr x1.length (lm (ik .i64) x1), .fn fv_p1 [] ca_p1] (e77 r) :=
  pure_J mixed (cp := t77 fu x1 p1 fv_p1 ca_p1) (t77_ok fu x1 p1 fv_p1 ca_p1 cap_p1 hp_p1) noI_ok i77 (w77 _ fu x1 p1 fv_p1 ca_p1 cap_p1 (fun y0 r h => orE_hit (mkC_at (a := y0) (by intro a b h; first | (exact rfl) | (simp only [INJ, IJ] at h; first | exact h | (simp_all [Prod.ext_iff]) )) h)) ) h
/-! 57: slices.ContainsFunc[[]int,int] -/
open Aw (d57)
def d57_at := by have h := tabL Aw.d57.eq_1; simp only [AllAt, Nat.zero_add, Nat.reduceAdd] at h; exact h
theorem i57 : finfo Tryz.prog 57 d57 = some ⟨bodyOf Tryz.f57, [.tmp 4], [4]⟩ := finfo_at Tryz.func57 rfl (by kernel_rfl) (by kernel_rfl)
def e57 : Bool → AV := fun r => .v (.bool r)
set_option maxHeartbeats 20000000 in
theorem w57 (cp : CallP) (fu : Nat) (x1 : List Int) (p1 : Int → Option Bool) (fv_p1 : FuncId) (ca_p1 : List AV) (cap_p1 : Capt ca_p1) (hp_p1 : ∀ (y0 : Int) r, p1 y0 = some r → cp fv_p1 ((.v (.int .i64 y0)) :: ca_p1) = some (.v (.bool r))) (H77_0 : ∀ (a0 : List Int) r, slices_IndexFunc_int fu a0 p1 = some r → cp 77 [.arr a0.length (lm (ik .i64) a0), .fn fv_p1 [] ca_p1] = some (.v (.int .i64 r))) : J (go Tryz.prog noC cp noI 0 [] d57 fu (fin Tryz.prog [.tmp 4] [4]) (bodyOf Tryz.f57) (initE 0 [.arr x1.length (lm (ik .i64) x1), .fn fv_p1 [] ca_p1]) [] []) (slices_ContainsFunc_int fu x1 p1) e57 := by
 unfold slices_ContainsFunc_int e57
 have c4_p1 := fun g => (cap_p1.1 g).1; have c3_p1 := fun g => (cap_p1.1 g).2.1; have b4_p1 := fun g => (cap_p1.1 g).2.2.1; have b3_p1 := fun g => (cap_p1.1 g).2.2.2; have nm_p1 := cap_p1.2
 refine J.bind fun x2 h1 => ?_
 have e_h1 := H77_0 _ _ h1
 try simp only [NN, NT, LN, simprocAttr, DT] at e_h1
 refine J.some ?_
 simp (maxSteps := 20000000) (disch := first | exact Zd | fail) only [bodyOf, Tryz.f57, ZZ, d57_at, simprocAttr, c4_p1, c3_p1, b4_p1, b3_p1, nm_p1, e_h1, FF, LN, NN, NT]
noncomputable def t57 (fu : Nat) (x1 : List Int) (p1 : Int → Option Bool) (fv_p1 : FuncId) (ca_p1 : List AV) : CallP := orE 77 (mkC (fun (t : List Int) => ([.arr t.length (lm (ik .i64) t), .fn fv_p1 [] ca_p1] : List AV)) (fun t => slices_IndexFunc_int fu t p1) e77) (orE fv_p1 (mkC (fun (t : Int) => ((.v (.int .i64 t)) :: ca_p1 : List AV)) (fun t => p1 t) (fun r => .v (.bool r))) (noP))
theorem t57_ok (fu : Nat) (x1 : List Int) (p1 : Int → Option Bool) (fv_p1 : FuncId) (ca_p1 : List AV) (cap_p1 : Capt ca_p1) (hp_p1 : ∀ (y0 : Int) r, p1 y0 = some r → PureOK Tryz.prog fv_p1 ((.v (.int .i64 y0)) :: ca_p1) (.v (.bool r))) : CpOK Tryz.prog (t57 fu x1 p1 fv_p1 ca_p1) := orE_ok (orE_ok (noP_ok) (mkC_ok (fun t b h => hp_p1 t b h))) (mkC_ok (fun t b h => ok77 fu t p1 fv_p1 ca_p1 cap_p1 hp_p1 b h))
theorem ok57 (fu : Nat) (x1 : List Int) (p1 : Int → Option Bool) (fv_p1 : FuncId) (ca_p1 : List AV) (cap_p1 : Capt ca_p1) (hp_p1 : ∀ (y0 : Int) r, p1 y0 = some r → PureOK Tryz.prog fv_p1 ((.v (.int .i64 y0)) :: ca_p1) (.v (.bool r))) (r) (h : slices_ContainsFunc_int fu x1 p1 = some r) : PureOK Tryz.prog 57 [.arr x1.length (lm (ik .i64) x1), .fn fv_p1 [] ca_p1] (e57 r) :=
  pure_J mixed (cp := t57 fu x1 p1 fv_p1 ca_p1) (t57_ok fu x1 p1 fv_p1 ca_p1 cap_p1 hp_p1) noI_ok i57 (w57 _ fu x1 p1 fv_p1 ca_p1 cap_p1 (fun y0 r h => orE_skip (fun hfv => mkC_none (by intro t h; simp at h)) (orE_hit (mkC_at (a := y0) (by intro a b h; first | (exact rfl) | (simp only [INJ, IJ] at h; first | exact h | (simp_all [Prod.ext_iff]) )) h))) (fun a0 r h => orE_hit (mkC_at (a := a0) (by intro a b h; first | (exact rfl) | (simp only [INJ, IJ] at h; first | exact h | (simp_all [Prod.ext_iff]) )) h))) h
/-! 58: lattice/shape.Size$1 -/
open Aw (d58)
def d58_at := by have h := tabL Aw.d58.eq_1; simp only [AllAt, Nat.zero_add, Nat.reduceAdd] at h; exact h
theorem i58 : finfo Tryz.prog 58 d58 = some ⟨bodyOf Tryz.f58, [.tmp 2], [4]⟩ := finfo_at Tryz.func58 rfl (by kernel_rfl) (by kernel_rfl)
def e58 : Bool → AV := fun r => .v (.bool r)
set_option maxHeartbeats 20000000 in
theorem w58 (cp : CallP) (fu : Nat) (x1 : Int) : J (go Tryz.prog noC cp noI 0 [] d58 fu (fin Tryz.prog [.tmp 2] [4]) (bodyOf Tryz.f58) (initE 0 [.v (.int .i64 x1)]) [] []) (shape_Size_1 fu x1) e58 := by
 unfold shape_Size_1 e58
 refine J.some ?_
 simp (maxSteps := 20000000) (disch := first | exact Zd | fail) only [bodyOf, Tryz.f58, ZZ, d58_at, simprocAttr, FF, LN, NN, NT]
noncomputable def t58 (fu : Nat) : CallP := noP
theorem t58_ok (fu : Nat) : CpOK Tryz.prog (t58 fu ) := noP_ok
theorem ok58 (fu : Nat) (x1 : Int) (r) (h : shape_Size_1 fu x1 = some r) : PureOK Tryz.prog 58 [.v (.int .i64 x1)] (e58 r) :=
  pure_J mixed (cp := t58 fu ) (t58_ok fu  ) noI_ok i58 (w58 _ fu x1  ) h
/-! 59: lattice/shape.Size$2 -/
open Aw (d59)
def d59_at := by have h := tabL Aw.d59.eq_1; simp only [AllAt, Nat.zero_add, Nat.reduceAdd] at h; exact h
theorem i59 : finfo Tryz.prog 59 d59 = some ⟨bodyOf Tryz.f59, [.tmp 2], [4]⟩ := finfo_at Tryz.func59 rfl (by kernel_rfl) (by kernel_rfl)
def e59 : Bool → AV := fun r => .v (.bool r)
set_option maxHeartbeats 20000000 in
theorem w59 (cp : CallP) (fu : Nat) (x1 : Int) : J (go Tryz.prog noC cp noI 0 [] d59 fu (fin Tryz.prog [.tmp 2] [4]) (bodyOf Tryz.f59) (initE 0 [.v (.int .i64 x1)]) [] []) (shape_Size_2 fu x1) e59 := by
 unfold shape_Size_2 e59
 refine J.some ?_
 simp (maxSteps := 20000000) (disch := first | exact Zd | fail) only [bodyOf, Tryz.f59, ZZ, d59_at, simprocAttr, FF, LN, NN, NT]
noncomputable def t59 (fu : Nat) : CallP := noP
theorem t59_ok (fu : Nat) : CpOK Tryz.prog (t59 fu ) := noP_ok
theorem ok59 (fu : Nat) (x1 : Int) (r) (h : shape_Size_2 fu x1 = some r) : PureOK Tryz.prog 59 [.v (.int .i64 x1)] (e59 r) :=
  pure_J mixed (cp := t59 fu ) (t59_ok fu  ) noI_ok i59 (w59 _ fu x1  ) h
/-! 78: slices.Index[[]int,int] -/
open Aw (d78)
def d78_at := by have h := tabL Aw.d78.eq_1; simp only [AllAt, Nat.zero_add, Nat.reduceAdd] at h; exact h
theorem i78 : finfo Tryz.prog 78 d78 = some ⟨bodyOf Tryz.f78, [.tmp 4], [3]⟩ := finfo_at Tryz.func78 rfl (by kernel_rfl) (by kernel_rfl)
def e78 : Int → AV := fun r => .v (.int .i64 r)
set_option maxHeartbeats 20000000 in
theorem w78 (cp : CallP) (fu : Nat) (x1 : List Int) (x2 : Int) : J (go Tryz.prog noC cp noI 0 [] d78 fu (fin Tryz.prog [.tmp 4] [3]) (bodyOf Tryz.f78) (initE 0 [.arr x1.length (lm (ik .i64) x1), .v (.int .i64 x2)]) [] []) (slices_Index_int fu x1 x2) e78 := by
 unfold slices_Index_int e78
 conv => arg 1; simp (disch := first | exact Zd | fail) only [bodyOf, Tryz.f78, ZZ, d78_at, simprocAttr]
 refine J.eq go_seq ?_
 conv => arg 1; simp (disch := first | exact Zd | fail) only [ZZ, d78_at, simprocAttr]
 unfold slices_Index_int_W1
 refine J.loop (fun (s : Int) => ([(0, .arr x1.length (lm (ik .i64) x1)), (1, .v (.int .i64 x2)), (7, .v (.int .i64 (x1.length : Int))), (8, .v (.int .i64 s))], [])) (fun next s => slices_Index_int_L1 fu x1 x2 next s) (s0 := 0) ?_ ?_ ?_
 ·first | rfl | (simp only [LN, NN, NT])
 ·first | (simp (disch := first | exact Zd | fail) only [RR, simprocAttr, LN, NN, NT]; done) | (simp (disch := first | exact Zd | fail) only [RR, simprocAttr, LN, fm_app, NN, NT]; done) | rfl
 rintro nx1 k1 hn1 x4
 show J _ (slices_Index_int_L1 fu x1 x2 nx1 x4) _
 unfold slices_Index_int_L1
 conv => arg 1; simp (disch := first | exact Zd | fail) only [ZZ, d78_at, simprocAttr]
 refine J.eq go_seq ?_
 conv => arg 1; simp (disch := first | exact Zd | fail) only [ZZ, d78_at, simprocAttr]
 refine J.ite (fun h1 => ?_) (fun h1 => ?_)
 ·have h1' := decide_eq_true h1
  have h1'' : decide ((x1.length : Int) ≤ x4) = false := decide_eq_false (by omega)
  conv => arg 1; simp (disch := first | exact Zd | fail) only [ZZ, d78_at, simprocAttr, h1'', h1']
  refine J.eq ret_seq ?_
  refine J.eq go_seq ?_
  refine J.at fun x6 h2 h3 h4 => ?_
  conv => arg 1; simp (disch := first | exact Zd | fail) only [ZZ, d78_at, simprocAttr, h1'', h1', lm_ik h4]
  refine J.ite (fun h5 => ?_) (fun h5 => ?_)
  ·have h5' := decide_eq_true h5
   refine J.some ?_
   simp (maxSteps := 20000000) (disch := first | exact Zd | fail) only [ZZ, d78_at, simprocAttr, h1'', h1', lm_ik h4, h5', FF, LN, NN, NT]
  ·have h5' := decide_eq_false h5
   conv => arg 1; simp (disch := first | exact Zd | fail) only [ZZ, d78_at, simprocAttr, h1'', h1', lm_ik h4, h5']
   refine J.eq ret_seq ?_
   conv => arg 1; simp (disch := first | exact Zd | fail) only [ZZ, d78_at, simprocAttr, h1'', h1', lm_ik h4, h5']
   refine J.next (s := wk .i64 (x4 + 1)) hn1 ?_ ?_
   ·first | rfl | (simp only [LN, NN, NT])
   ·first | (simp (disch := first | exact Zd | fail) only [RR, simprocAttr, LN, NN, NT]; done) | (simp (disch := first | exact Zd | fail) only [RR, simprocAttr, LN, fm_app, NN, NT]; done) | rfl
 ·have h1' := decide_eq_false h1
  have h1'' : decide ((x1.length : Int) ≤ x4) = true := decide_eq_true (by omega)
  conv => arg 1; simp (disch := first | exact Zd | fail) only [ZZ, d78_at, simprocAttr, h1'', h1']
  refine J.eq ret_seq ?_
  refine J.some ?_
  simp (maxSteps := 20000000) (disch := first | exact Zd | fail) only [ZZ, d78_at, simprocAttr, h1'', h1', FF, LN, NN, NT]
noncomputable def t78 (fu : Nat) : CallP := noP
theorem t78_ok (fu : Nat) : CpOK Tryz.prog (t78 fu ) := noP_ok
theorem ok78 (fu : Nat) (x1 : List Int) (x2 : Int) (r) (h : slices_Index_int fu x1 x2 = some r) : PureOK Tryz.prog 78 [.arr x1.length (lm (ik .i64) x1), .v (.int .i64 x2)] (e78 r) :=
  pure_J mixed (cp := t78 fu ) (t78_ok fu  ) noI_ok i78 (w78 _ fu x1 x2  ) h
/-! 60: slices.Contains[[]int,int] -/
open Aw (d60)
def d60_at := by have h := tabL Aw.d60.eq_1; simp only [AllAt, Nat.zero_add, Nat.reduceAdd] at h; exact h
theorem i60 : finfo Tryz.prog 60 d60 = some ⟨bodyOf Tryz.f60, [.tmp 4], [4]⟩ := finfo_at Tryz.func60 rfl (by kernel_rfl) (by kernel_rfl)
def e60 : Bool → AV := fun r => .v (.bool r)
set_option maxHeartbeats 20000000 in
theorem w60 (cp : CallP) (fu : Nat) (x1 : List Int) (x2 : Int) (H78_0 : ∀ (a0 : List Int) (a1 : Int) r, slices_Index_int fu a0 a1 = some r → cp 78 [.arr a0.length (lm (ik .i64) a0), .v (.int .i64 a1)] = some (.v (.int .i64 r))) : J (go Tryz.prog noC cp noI 0 [] d60 fu (fin Tryz.prog [.tmp 4] [4]) (bodyOf Tryz.f60) (initE 0 [.arr x1.length (lm (ik .i64) x1), .v (.int .i64 x2)]) [] []) (slices_Contains_int fu x1 x2) e60 := by
 unfold slices_Contains_int e60
 refine J.bind fun x3 h1 => ?_
 have e_h1 := H78_0 _ _ _ h1
 try simp only [NN, NT, LN, simprocAttr, DT] at e_h1
 refine J.some ?_
 simp (maxSteps := 20000000) (disch := first | exact Zd | fail) only [bodyOf, Tryz.f60, ZZ, d60_at, simprocAttr, e_h1, FF, LN, NN, NT]
noncomputable def t60 (fu : Nat) : CallP := orE 78 (mkC (fun (t : (List Int) × Int) => ([.arr t.1.length (lm (ik .i64) t.1), .v (.int .i64 t.2)] : List AV)) (fun t => slices_Index_int fu t.1 t.2) e78) (noP)
theorem t60_ok (fu : Nat) : CpOK Tryz.prog (t60 fu ) := orE_ok (noP_ok) (mkC_ok (fun t b h => ok78 fu t.1 t.2  b h))
theorem ok60 (fu : Nat) (x1 : List Int) (x2 : Int) (r) (h : slices_Contains_int fu x1 x2 = some r) : PureOK Tryz.prog 60 [.arr x1.length (lm (ik .i64) x1), .v (.int .i64 x2)] (e60 r) :=
  pure_J mixed (cp := t60 fu ) (t60_ok fu  ) noI_ok i60 (w60 _ fu x1 x2  (fun a0 a1 r h => orE_hit (mkC_at (a := (a0, a1)) (by intro a b h; first | (exact rfl) | (simp only [INJ, IJ] at h; first | exact h | (simp_all [Prod.ext_iff]) )) h))) h
/-! 30: lattice/shape.Size -/
open Aw (d30)
def d30_at := by have h := tabL Aw.d30.eq_1; simp only [AllAt, Nat.zero_add, Nat.reduceAdd] at h; exact h
theorem i30 : finfo Tryz.prog 30 d30 = some ⟨bodyOf Tryz.f30, [.tmp 2, .tmp 3], [3, 32]⟩ := finfo_at Tryz.func30 rfl (by kernel_rfl) (by kernel_rfl)
def e30 : (Int × Int) → AV := fun r => .tuple [.v (.int .i64 r.1), .v (.int .i64 r.2)]
set_option maxHeartbeats 20000000 in
theorem w30 (cp : CallP) (fu : Nat) (x1 : List Int) (H57_0 : ∀ (a0 : List Int) r, slices_ContainsFunc_int fu a0 (fun y0 => shape_Size_1 fu y0) = some r → cp 57 [.arr a0.length (lm (ik .i64) a0), .fn 58 [] []] = some (.v (.bool r))) (H57_1 : ∀ (a0 : List Int) r, slices_ContainsFunc_int fu a0 (fun y0 => shape_Size_2 fu y0) = some r → cp 57 [.arr a0.length (lm (ik .i64) a0), .fn 59 [] []] = some (.v (.bool r))) (H60_0 : ∀ (a0 : List Int) (a1 : Int) r, slices_Contains_int fu a0 a1 = some r → cp 60 [.arr a0.length (lm (ik .i64) a0), .v (.int .i64 a1)] = some (.v (.bool r))) : J (go Tryz.prog noC cp noI 0 [] d30 fu (fin Tryz.prog [.tmp 2, .tmp 3] [3, 32]) (bodyOf Tryz.f30) (initE 0 [.arr x1.length (lm (ik .i64) x1)]) [] []) (shape_Size fu x1) e30 := by
 unfold shape_Size e30
 conv => arg 1; simp (disch := first | exact Zd | fail) only [bodyOf, Tryz.f30, ZZ, d30_at, simprocAttr]
 refine J.eq go_seq ?_
 refine J.bind fun x2 h1 => ?_
 have e_h1 := H57_0 _ _ h1
 try simp only [NN, NT, LN, simprocAttr, DT] at e_h1
 conv => arg 1; simp (disch := first | exact Zd | fail) only [ZZ, d30_at, simprocAttr, e_h1]
 refine J.ite (fun h2 => ?_) (fun h2 => ?_)
 ·have h2' : x2 = true := h2
  refine J.some ?_
  simp (maxSteps := 20000000) (disch := first | exact Zd | fail) only [ZZ, d30_at, simprocAttr, e_h1, h2', FF, LN, NN, NT]
 ·have h2' : x2 = false := Bool.eq_false_iff.2 h2
  conv => arg 1; simp (disch := first | exact Zd | fail) only [ZZ, d30_at, simprocAttr, e_h1, h2']
  refine J.eq ret_seq ?_
  refine J.joinS (fun (t : Unit) => ([(0, .arr x1.length (lm (ik .i64) x1))], [])) (fun t => shape_Size_k1 fu x1) ?_ (fun hj1 => ?_)
  ·rintro ⟨⟩
   show J _ (shape_Size_k1 fu x1) _
   unfold shape_Size_k1
   refine J.eq go_seq ?_
   refine J.bind fun x3 h3 => ?_
   have e_h3 := H60_0 _ _ _ h3
   try simp only [NN, NT, LN, simprocAttr, DT] at e_h3
   conv => arg 1; simp (disch := first | exact Zd | fail) only [ZZ, d30_at, simprocAttr, e_h1, h2', e_h3]
   refine J.ite (fun h4 => ?_) (fun h4 => ?_)
   ·have h4' : x3 = true := h4
    refine J.some ?_
    simp (maxSteps := 20000000) (disch := first | exact Zd | fail) only [ZZ, d30_at, simprocAttr, e_h1, h2', e_h3, h4', FF, LN, NN, NT]
   ·have h4' : x3 = false := Bool.eq_false_iff.2 h4
    conv => arg 1; simp (disch := first | exact Zd | fail) only [ZZ, d30_at, simprocAttr, e_h1, h2', e_h3, h4']
    refine J.eq ret_seq ?_
    conv => arg 1; simp (disch := first | exact Zd | fail) only [ZZ, d30_at, simprocAttr, e_h1, h2', e_h3, h4']
    refine J.eq go_seq ?_
    conv => arg 1; simp (disch := first | exact Zd | fail) only [ZZ, d30_at, simprocAttr, e_h1, h2', e_h3, h4']
    unfold shape_Size_W1
    refine J.loop (fun (s : Int × Int) => ([(4, .v (.int .i64 s.1)), (18, .arr x1.length (lm (ik .i64) x1)), (19, .v (.int .i64 (x1.length : Int))), (20, .v (.int .i64 s.2))], [])) (fun next s => shape_Size_L1 fu x1 (fun x5 x6 => next (x5, x6)) s.1 s.2) (s0 := (1, 0)) ?_ ?_ ?_
    ·first | rfl | (simp only [LN, NN, NT])
    ·first | (simp (disch := first | exact Zd | fail) only [RR, simprocAttr, LN, NN, NT]; done) | (simp (disch := first | exact Zd | fail) only [RR, simprocAttr, LN, fm_app, NN, NT]; done) | rfl
    rintro next k1 hn1 ⟨x5, x6⟩
    let nx1 : Int → Int → Option (Int × Int) := (fun x5 x6 => next (x5, x6))
    show J _ (shape_Size_L1 fu x1 nx1 x5 x6) _
    unfold shape_Size_L1
    conv => arg 1; simp (disch := first | exact Zd | fail) only [ZZ, d30_at, simprocAttr, e_h1, h2', e_h3, h4']
    refine J.eq go_seq ?_
    conv => arg 1; simp (disch := first | exact Zd | fail) only [ZZ, d30_at, simprocAttr, e_h1, h2', e_h3, h4']
    refine J.ite (fun h5 => ?_) (fun h5 => ?_)
    ·have h5' := decide_eq_true h5
     have h5'' : decide ((x1.length : Int) ≤ x6) = false := decide_eq_false (by omega)
     conv => arg 1; simp (disch := first | exact Zd | fail) only [ZZ, d30_at, simprocAttr, e_h1, h2', e_h3, h4', h5'', h5']
     refine J.eq ret_seq ?_
     refine J.eq go_seq ?_
     refine J.at fun x8 h6 h7 h8 => ?_
     conv => arg 1; simp (disch := first | exact Zd | fail) only [ZZ, d30_at, simprocAttr, e_h1, h2', e_h3, h4', h5'', h5', lm_ik h8]
     refine J.eq go_seq ?_
     refine J.chk fun h9 => ?_
     conv => arg 1; simp (disch := first | exact Zd | fail) only [ZZ, d30_at, simprocAttr, e_h1, h2', e_h3, h4', h5'', h5', lm_ik h8]
     refine J.ite (fun h10 => ?_) (fun h10 => ?_)
     ·have h10' := decide_eq_true h10
      have h10'' : decide (x8 ≤ (wk .i64 (Int.tdiv 4096 x5))) = false := decide_eq_false (by omega)
      refine J.some ?_
      simp (maxSteps := 20000000) (disch := first | exact Zd | fail) only [ZZ, d30_at, simprocAttr, e_h1, h2', e_h3, h4', h5'', h5', lm_ik h8, h10'', h10', FF, LN, NN, NT]
     ·have h10' := decide_eq_false h10
      have h10'' : decide (x8 ≤ (wk .i64 (Int.tdiv 4096 x5))) = true := decide_eq_true (by omega)
      conv => arg 1; simp (disch := first | exact Zd | fail) only [ZZ, d30_at, simprocAttr, e_h1, h2', e_h3, h4', h5'', h5', lm_ik h8, h10'', h10']
      refine J.eq ret_seq ?_
      conv => arg 1; simp (disch := first | exact Zd | fail) only [ZZ, d30_at, simprocAttr, e_h1, h2', e_h3, h4', h5'', h5', lm_ik h8, h10'', h10']
      refine J.eq ret_seq ?_
      conv => arg 1; simp (disch := first | exact Zd | fail) only [ZZ, d30_at, simprocAttr, e_h1, h2', e_h3, h4', h5'', h5', lm_ik h8, h10'', h10']
      refine J.next (s := (wk .i64 (x5 * x8), wk .i64 (x6 + 1))) hn1 ?_ ?_
      ·first | rfl | (simp only [LN, NN, NT])
      ·first | (simp (disch := first | exact Zd | fail) only [RR, simprocAttr, LN, NN, NT]; done) | (simp (disch := first | exact Zd | fail) only [RR, simprocAttr, LN, fm_app, NN, NT]; done) | rfl
    ·have h5' := decide_eq_false h5
     have h5'' : decide ((x1.length : Int) ≤ x6) = true := decide_eq_true (by omega)
     conv => arg 1; simp (disch := first | exact Zd | fail) only [ZZ, d30_at, simprocAttr, e_h1, h2', e_h3, h4', h5'', h5']
     refine J.eq ret_seq ?_
     refine J.some ?_
     simp (maxSteps := 20000000) (disch := first | exact Zd | fail) only [ZZ, d30_at, simprocAttr, e_h1, h2', e_h3, h4', h5'', h5', FF, LN, NN, NT]
  ·refine J.eq go_seq ?_
   conv => arg 1; simp (disch := first | exact Zd | fail) only [ZZ, d30_at, simprocAttr, e_h1, h2']
   refine J.ite (fun h11 => ?_) (fun h11 => ?_)
   ·have h11' := decide_eq_true h11
    have h11'' : decide ((x1.length : Int) ≤ 8) = false := decide_eq_false (by omega)
    conv => arg 1; simp (disch := first | exact Zd | fail) only [ZZ, d30_at, simprocAttr, e_h1, h2', h11'', h11']
    refine J.eq ret_seq ?_
    refine J.some ?_
    simp (maxSteps := 20000000) (disch := first | exact Zd | fail) only [ZZ, d30_at, simprocAttr, e_h1, h2', h11'', h11', FF, LN, NN, NT]
   ·have h11' := decide_eq_false h11
    have h11'' : decide ((x1.length : Int) ≤ 8) = true := decide_eq_true (by omega)
    refine J.bind fun x9 h12 => ?_
    have e_h12 := H57_1 _ _ h12
    try simp only [NN, NT, LN, simprocAttr, DT] at e_h12
    conv => arg 1; simp (disch := first | exact Zd | fail) only [ZZ, d30_at, simprocAttr, e_h1, h2', h11'', h11', e_h12]
    refine J.eq ret_seq ?_
    conv => arg 1; simp (disch := first | exact Zd | fail) only [ZZ, d30_at, simprocAttr, e_h1, h2', h11'', h11', e_h12]
    refine J.ite (fun h13 => ?_) (fun h13 => ?_)
    ·have h13' : x9 = true := h13
     refine J.some ?_
     simp (maxSteps := 20000000) (disch := first | exact Zd | fail) only [ZZ, d30_at, simprocAttr, e_h1, h2', h11'', h11', e_h12, h13', FF, LN, NN, NT]
    ·have h13' : x9 = false := Bool.eq_false_iff.2 h13
     conv => arg 1; simp (disch := first | exact Zd | fail) only [ZZ, d30_at, simprocAttr, e_h1, h2', h11'', h11', e_h12, h13']
     refine J.jmp (t := ()) hj1 ?_ ?_
     ·first | rfl | (simp only [LN, NN, NT])
     ·first | (simp (disch := first | exact Zd | fail) only [RR, simprocAttr, LN, NN, NT]; done) | (simp (disch := first | exact Zd | fail) only [RR, simprocAttr, LN, fm_app, NN, NT]; done) | rfl
noncomputable def t30 (fu : Nat) : CallP := orE 57 (mkC (fun (t : List Int) => ([.arr t.length (lm (ik .i64) t), .fn 58 [] []] : List AV)) (fun t => slices_ContainsFunc_int fu t (fun y0 => shape_Size_1 fu y0)) e57) (orE 57 (mkC (fun (t : List Int) => ([.arr t.length (lm (ik .i64) t), .fn 59 [] []] : List AV)) (fun t => slices_ContainsFunc_int fu t (fun y0 => shape_Size_2 fu y0)) e57) (orE 60 (mkC (fun (t : (List Int) × Int) => ([.arr t.1.length (lm (ik .i64) t.1), .v (.int .i64 t.2)] : List AV)) (fun t => slices_Contains_int fu t.1 t.2) e60) (noP)))
theorem t30_ok (fu : Nat) : CpOK Tryz.prog (t30 fu ) := orE_ok (orE_ok (orE_ok (noP_ok) (mkC_ok (fun t b h => ok60 fu t.1 t.2  b h))) (mkC_ok (fun t b h => ok57 fu t (fun y0 => shape_Size_2 fu y0) 59 [] Capt.nil (fun y0 r h => ok59 fu y0  r h) b h))) (mkC_ok (fun t b h => ok57 fu t (fun y0 => shape_Size_1 fu y0) 58 [] Capt.nil (fun y0 r h => ok58 fu y0  r h) b h))
theorem ok30 (fu : Nat) (x1 : List Int) (r) (h : shape_Size fu x1 = some r) : PureOK Tryz.prog 30 [.arr x1.length (lm (ik .i64) x1)] (e30 r) :=
  pure_J mixed (cp := t30 fu ) (t30_ok fu  ) noI_ok i30 (w30 _ fu x1  (fun a0 r h => orE_hit (mkC_at (a := a0) (by intro a b h; first | (exact rfl) | (simp only [INJ, IJ] at h; first | exact h | (simp_all [Prod.ext_iff]) )) h)) (fun a0 r h => orE_next (mkC_none (by intro t h; simp at h)) (orE_hit (mkC_at (a := a0) (by intro a b h; first | (exact rfl) | (simp only [INJ, IJ] at h; first | exact h | (simp_all [Prod.ext_iff]) )) h))) (fun a0 a1 r h => orE_miss (by decide) (orE_miss (by decide) (orE_hit (mkC_at (a := (a0, a1)) (by intro a b h; first | (exact rfl) | (simp only [INJ, IJ] at h; first | exact h | (simp_all [Prod.ext_iff]) )) h))))) h
/-! 35: lattice/tens.Check -/
open Aw (d35)
def d35_at := by have h := tabL Aw.d35.eq_1; simp only [AllAt, Nat.zero_add, Nat.reduceAdd] at h; exact h
theorem i35 : finfo Tryz.prog 35 d35 = some ⟨bodyOf Tryz.f35, [.tmp 2], [32]⟩ := finfo_at Tryz.func35 rfl (by kernel_rfl) (by kernel_rfl)
def e35 : Int → AV := fun r => .v (.int .i64 r)
set_option maxHeartbeats 20000000 in
theorem w35 (cp : CallP) (fu : Nat) (x1 : T_Tensor) (H63_0 : ∀ (a0 : Int) r, tens_known fu a0 = some r → cp 63 [.v (.int .i64 a0)] = some (.v (.bool r))) (H30_0 : ∀ (a0 : List Int) r, shape_Size fu a0 = some r → cp 30 [.arr a0.length (lm (ik .i64) a0)] = some (.tuple [.v (.int .i64 r.1), .v (.int .i64 r.2)])) : J (go Tryz.prog noC cp noI 0 [] d35 fu (fin Tryz.prog [.tmp 2] [32]) (bodyOf Tryz.f35) (initE 0 [.agg (c_T_Tensor x1)]) [] []) (tens_Check fu x1) e35 := by
 unfold tens_Check e35
 conv => arg 1; simp (disch := first | exact Zd | fail) only [bodyOf, Tryz.f35, ZZ, d35_at, simprocAttr]
 refine J.eq go_seq ?_
 refine J.bind fun x2 h1 => ?_
 have e_h1 := H63_0 _ _ h1
 try simp only [NN, NT, LN, simprocAttr, DT] at e_h1
 conv => arg 1; simp (disch := first | exact Zd | fail) only [ZZ, d35_at, simprocAttr, e_h1]
 refine J.ite (fun h2 => ?_) (fun h2 => ?_)
 ·have h2' : x2 = true := h2
  conv => arg 1; simp (disch := first | exact Zd | fail) only [ZZ, d35_at, simprocAttr, e_h1, h2']
  refine J.eq ret_seq ?_
  refine J.bind fun x3 h3 => ?_
  have e_h3 := H30_0 _ _ h3
  try simp only [NN, NT, LN, simprocAttr, DT] at e_h3
  conv => arg 1; simp (disch := first | exact Zd | fail) only [ZZ, d35_at, simprocAttr, e_h1, h2', e_h3]
  refine J.eq go_seq ?_
  conv => arg 1; simp (disch := first | exact Zd | fail) only [ZZ, d35_at, simprocAttr, e_h1, h2', e_h3]
  refine J.ite (fun h4 => ?_) (fun h4 => ?_)
  ·have h4' := decide_eq_true h4
   conv => arg 1; simp (disch := first | exact Zd | fail) only [ZZ, d35_at, simprocAttr, e_h1, h2', e_h3, h4']
   refine J.eq ret_seq ?_
   conv => arg 1; simp (disch := first | exact Zd | fail) only [ZZ, d35_at, simprocAttr, e_h1, h2', e_h3, h4']
   refine J.joinS (fun (t : Int) => ([(1, .ptr (0, 1, 0) 0 0), (3, .v (.int .i64 x3.1)), (5, .v (.int .i64 t))], [((0, 1, 0), .bx true ([.v (.int .i64 x1.fType), .arr x1.fDims.length (lm (ik .i64) x1.fDims), .arr x1.fF.length (lm (ik .u32) x1.fF), .arr x1.fI.length (lm (ik .i64) x1.fI), .arr x1.fB.length (lm (bk) x1.fB)]))])) (fun t => tens_Check_k1 fu x1 x3 t) ?_ (fun hj1 => ?_)
   ·rintro x4
    show J _ (tens_Check_k1 fu x1 x3 x4) _
    unfold tens_Check_k1
    refine J.eq go_seq ?_
    refine J.eq go_seq ?_
    conv => arg 1; simp (disch := first | exact Zd | fail) only [ZZ, d35_at, simprocAttr, e_h1, h2', e_h3, h4']
    refine J.ite (fun h5 => ?_) (fun h5 => ?_)
    ·have h5' := decide_eq_true h5
     conv => arg 1; simp (disch := first | exact Zd | fail) only [ZZ, d35_at, simprocAttr, e_h1, h2', e_h3, h4', h5']
     refine J.eq ret_seq ?_
     conv => arg 1; simp (disch := first | exact Zd | fail) only [ZZ, d35_at, simprocAttr, e_h1, h2', e_h3, h4', h5']
     refine J.ite (fun h6 => ?_) (fun h6 => ?_)
     ·have h6' := decide_eq_true h6
      conv => arg 1; simp (disch := first | exact Zd | fail) only [ZZ, d35_at, simprocAttr, e_h1, h2', e_h3, h4', h5', h6']
      refine J.eq ret_seq ?_
      refine J.some ?_
      simp (maxSteps := 20000000) (disch := first | exact Zd | fail) only [ZZ, d35_at, simprocAttr, e_h1, h2', e_h3, h4', h5', h6', FF, LN, NN, NT]
     ·have h6' := decide_eq_false h6
      refine J.some ?_
      simp (maxSteps := 20000000) (disch := first | exact Zd | fail) only [ZZ, d35_at, simprocAttr, e_h1, h2', e_h3, h4', h5', h6', FF, LN, NN, NT]
    ·have h5' := decide_eq_false h5
     conv => arg 1; simp (disch := first | exact Zd | fail) only [ZZ, d35_at, simprocAttr, e_h1, h2', e_h3, h4', h5']
     refine J.eq ret_seq ?_
     refine J.some ?_
     simp (maxSteps := 20000000) (disch := first | exact Zd | fail) only [ZZ, d35_at, simprocAttr, e_h1, h2', e_h3, h4', h5', FF, LN, NN, NT]
   ·conv => arg 1; simp (disch := first | exact Zd | fail) only [ZZ, d35_at, simprocAttr, e_h1, h2', e_h3, h4']
    refine J.ite (fun h7 => ?_) (fun h7 => ?_)
    ·have h7' := decide_eq_true h7
     conv => arg 1; simp (disch := first | exact Zd | fail) only [ZZ, d35_at, simprocAttr, e_h1, h2', e_h3, h4', h7']
     refine J.jmp (t := (x1.fI.length : Int)) hj1 ?_ ?_
     ·first | rfl | (simp only [LN, NN, NT])
     ·first | (simp (disch := first | exact Zd | fail) only [RR, simprocAttr, LN, NN, NT]; done) | (simp (disch := first | exact Zd | fail) only [RR, simprocAttr, LN, fm_app, NN, NT]; done) | rfl
    ·have h7' := decide_eq_false h7
     conv => arg 1; simp (disch := first | exact Zd | fail) only [ZZ, d35_at, simprocAttr, e_h1, h2', e_h3, h4', h7']
     refine J.ite (fun h8 => ?_) (fun h8 => ?_)
     ·have h8' := decide_eq_true h8
      conv => arg 1; simp (disch := first | exact Zd | fail) only [ZZ, d35_at, simprocAttr, e_h1, h2', e_h3, h4', h7', h8']
      refine J.jmp (t := (x1.fB.length : Int)) hj1 ?_ ?_
      ·first | rfl | (simp only [LN, NN, NT])
      ·first | (simp (disch := first | exact Zd | fail) only [RR, simprocAttr, LN, NN, NT]; done) | (simp (disch := first | exact Zd | fail) only [RR, simprocAttr, LN, fm_app, NN, NT]; done) | rfl
     ·have h8' := decide_eq_false h8
      conv => arg 1; simp (disch := first | exact Zd | fail) only [ZZ, d35_at, simprocAttr, e_h1, h2', e_h3, h4', h7', h8']
      refine J.jmp (t := (x1.fF.length : Int)) hj1 ?_ ?_
      ·first | rfl | (simp only [LN, NN, NT])
      ·first | (simp (disch := first | exact Zd | fail) only [RR, simprocAttr, LN, NN, NT]; done) | (simp (disch := first | exact Zd | fail) only [RR, simprocAttr, LN, fm_app, NN, NT]; done) | rfl
  ·have h4' := decide_eq_false h4
   refine J.some ?_
   simp (maxSteps := 20000000) (disch := first | exact Zd | fail) only [ZZ, d35_at, simprocAttr, e_h1, h2', e_h3, h4', FF, LN, NN, NT]
 ·have h2' : x2 = false := Bool.eq_false_iff.2 h2
  refine J.some ?_
  simp (maxSteps := 20000000) (disch := first | exact Zd | fail) only [ZZ, d35_at, simprocAttr, e_h1, h2', FF, LN, NN, NT]
noncomputable def t35 (fu : Nat) : CallP := orE 63 (mkC (fun (t : Int) => ([.v (.int .i64 t)] : List AV)) (fun t => tens_known fu t) e63) (orE 30 (mkC (fun (t : List Int) => ([.arr t.length (lm (ik .i64) t)] : List AV)) (fun t => shape_Size fu t) e30) (noP))
theorem t35_ok (fu : Nat) : CpOK Tryz.prog (t35 fu ) := orE_ok (orE_ok (noP_ok) (mkC_ok (fun t b h => ok30 fu t  b h))) (mkC_ok (fun t b h => ok63 fu t  b h))
theorem ok35 (fu : Nat) (x1 : T_Tensor) (r) (h : tens_Check fu x1 = some r) : PureOK Tryz.prog 35 [.agg (c_T_Tensor x1)] (e35 r) :=
  pure_J mixed (cp := t35 fu ) (t35_ok fu  ) noI_ok i35 (w35 _ fu x1  (fun a0 r h => orE_hit (mkC_at (a := a0) (by intro a b h; first | (exact rfl) | (simp only [INJ, IJ] at h; first | exact h | (simp_all [Prod.ext_iff]) )) h)) (fun a0 r h => orE_miss (by decide) (orE_hit (mkC_at (a := a0) (by intro a b h; first | (exact rfl) | (simp only [INJ, IJ] at h; first | exact h | (simp_all [Prod.ext_iff]) )) h)))) h
/-! 81: lattice/tens.own[int] -/
open Aw (d81)
def d81_at := by have h := tabL Aw.d81.eq_1; simp only [AllAt, Nat.zero_add, Nat.reduceAdd] at h; exact h
theorem i81 : finfo Tryz.prog 81 d81 = some ⟨bodyOf Tryz.f81, [.tmp 2], [22]⟩ := finfo_at Tryz.func81 rfl (by kernel_rfl) (by kernel_rfl)
def e81 : (List Int) → AV := fun r => .fresh 1 r.length (lm (ik .i64) r)
set_option maxHeartbeats 20000000 in
theorem w81 (cp : CallP) (fu : Nat) (x1 : List Int) : J (go Tryz.prog noC cp noI 0 [] d81 fu (fin Tryz.prog [.tmp 2] [22]) (bodyOf Tryz.f81) (initE 0 [.arr x1.length (lm (ik .i64) x1)]) [] []) (tens_own_int fu x1) e81 := by
 unfold tens_own_int e81
 refine J.chk fun h1 => ?_
 refine J.some ?_
 simp (maxSteps := 20000000) (disch := first | exact Zd | fail) only [bodyOf, Tryz.f81, ZZ, d81_at, simprocAttr, FF, LN, NN, NT]
noncomputable def t81 (fu : Nat) : CallP := noP
theorem t81_ok (fu : Nat) : CpOK Tryz.prog (t81 fu ) := noP_ok
theorem ok81 (fu : Nat) (x1 : List Int) (r) (h : tens_own_int fu x1 = some r) : PureOK Tryz.prog 81 [.arr x1.length (lm (ik .i64) x1)] (e81 r) :=
  pure_J mixed (cp := t81 fu ) (t81_ok fu  ) noI_ok i81 (w81 _ fu x1  ) h
/-! 82: lattice/tens.own[uint32] -/
open Aw (d82)
def d82_at := by have h := tabL Aw.d82.eq_1; simp only [AllAt, Nat.zero_add, Nat.reduceAdd] at h; exact h
theorem i82 : finfo Tryz.prog 82 d82 = some ⟨bodyOf Tryz.f82, [.tmp 2], [24]⟩ := finfo_at Tryz.func82 rfl (by kernel_rfl) (by kernel_rfl)
def e82 : (List Int) → AV := fun r => .fresh 1 r.length (lm (ik .u32) r)
set_option maxHeartbeats 20000000 in
theorem w82 (cp : CallP) (fu : Nat) (x1 : List Int) : J (go Tryz.prog noC cp noI 0 [] d82 fu (fin Tryz.prog [.tmp 2] [24]) (bodyOf Tryz.f82) (initE 0 [.arr x1.length (lm (ik .u32) x1)]) [] []) (tens_own_uint32 fu x1) e82 := by
 unfold tens_own_uint32 e82
 refine J.chk fun h1 => ?_
 refine J.some ?_
 simp (maxSteps := 20000000) (disch := first | exact Zd | fail) only [bodyOf, Tryz.f82, ZZ, d82_at, simprocAttr, FF, LN, NN, NT]
noncomputable def t82 (fu : Nat) : CallP := noP
theorem t82_ok (fu : Nat) : CpOK Tryz.prog (t82 fu ) := noP_ok
theorem ok82 (fu : Nat) (x1 : List Int) (r) (h : tens_own_uint32 fu x1 = some r) : PureOK Tryz.prog 82 [.arr x1.length (lm (ik .u32) x1)] (e82 r) :=
  pure_J mixed (cp := t82 fu ) (t82_ok fu  ) noI_ok i82 (w82 _ fu x1  ) h
/-! 83: lattice/tens.own[int64] -/
open Aw (d83)
def d83_at := by have h := tabL Aw.d83.eq_1; simp only [AllAt, Nat.zero_add, Nat.reduceAdd] at h; exact h
theorem i83 : finfo Tryz.prog 83 d83 = some ⟨bodyOf Tryz.f83, [.tmp 2], [25]⟩ := finfo_at Tryz.func83 rfl (by kernel_rfl) (by kernel_rfl)
def e83 : (List Int) → AV := fun r => .fresh 1 r.length (lm (ik .i64) r)
set_option maxHeartbeats 20000000 in
theorem w83 (cp : CallP) (fu : Nat) (x1 : List Int) : J (go Tryz.prog noC cp noI 0 [] d83 fu (fin Tryz.prog [.tmp 2] [25]) (bodyOf Tryz.f83) (initE 0 [.arr x1.length (lm (ik .i64) x1)]) [] []) (tens_own_int64 fu x1) e83 := by
 unfold tens_own_int64 e83
 refine J.chk fun h1 => ?_
 refine J.some ?_
 simp (maxSteps := 20000000) (disch := first | exact Zd | fail) only [bodyOf, Tryz.f83, ZZ, d83_at, simprocAttr, FF, LN, NN, NT]
noncomputable def t83 (fu : Nat) : CallP := noP
theorem t83_ok (fu : Nat) : CpOK Tryz.prog (t83 fu ) := noP_ok
theorem ok83 (fu : Nat) (x1 : List Int) (r) (h : tens_own_int64 fu x1 = some r) : PureOK Tryz.prog 83 [.arr x1.length (lm (ik .i64) x1)] (e83 r) :=
  pure_J mixed (cp := t83 fu ) (t83_ok fu  ) noI_ok i83 (w83 _ fu x1  ) h
/-! 84: lattice/tens.own[bool] -/
open Aw (d84)
def d84_at := by have h := tabL Aw.d84.eq_1; simp only [AllAt, Nat.zero_add, Nat.reduceAdd] at h; exact h
theorem i84 : finfo Tryz.prog 84 d84 = some ⟨bodyOf Tryz.f84, [.tmp 2], [26]⟩ := finfo_at Tryz.func84 rfl (by kernel_rfl) (by kernel_rfl)
def e84 : (List Bool) → AV := fun r => .fresh 1 r.length (lm (bk) r)
set_option maxHeartbeats 20000000 in
theorem w84 (cp : CallP) (fu : Nat) (x1 : List Bool) : J (go Tryz.prog noC cp noI 0 [] d84 fu (fin Tryz.prog [.tmp 2] [26]) (bodyOf Tryz.f84) (initE 0 [.arr x1.length (lm (bk) x1)]) [] []) (tens_own_bool fu x1) e84 := by
 unfold tens_own_bool e84
 refine J.chk fun h1 => ?_
 refine J.some ?_
 simp (maxSteps := 20000000) (disch := first | exact Zd | fail) only [bodyOf, Tryz.f84, ZZ, d84_at, simprocAttr, FF, LN, NN, NT]
noncomputable def t84 (fu : Nat) : CallP := noP
theorem t84_ok (fu : Nat) : CpOK Tryz.prog (t84 fu ) := noP_ok
theorem ok84 (fu : Nat) (x1 : List Bool) (r) (h : tens_own_bool fu x1 = some r) : PureOK Tryz.prog 84 [.arr x1.length (lm (bk) x1)] (e84 r) :=
  pure_J mixed (cp := t84 fu ) (t84_ok fu  ) noI_ok i84 (w84 _ fu x1  ) h
/-! 64: lattice/tens.Copy -/
open Aw (d64)
def d64_at := by have h := tabL Aw.d64.eq_1; simp only [AllAt, Nat.zero_add, Nat.reduceAdd] at h; exact h
theorem i64 : finfo Tryz.prog 64 d64 = some ⟨bodyOf Tryz.f64, [.cell 2 28], [28]⟩ := finfo_at Tryz.func64 rfl (by kernel_rfl) (by kernel_rfl)
def e64 : T_Tensor → AV := fun r => .agg [.v (.int .i64 r.fType), .fresh 1 r.fDims.length (lm (ik .i64) r.fDims), .fresh 1 r.fF.length (lm (ik .u32) r.fF), .fresh 1 r.fI.length (lm (ik .i64) r.fI), .fresh 1 r.fB.length (lm (bk) r.fB)]
set_option maxHeartbeats 20000000 in
theorem w64 (cp : CallP) (fu : Nat) (x1 : T_Tensor) (H81_0 : ∀ (a0 : List Int) r, tens_own_int fu a0 = some r → cp 81 [.arr a0.length (lm (ik .i64) a0)] = some (.fresh 1 r.length (lm (ik .i64) r))) (H82_0 : ∀ (a0 : List Int) r, tens_own_uint32 fu a0 = some r → cp 82 [.arr a0.length (lm (ik .u32) a0)] = some (.fresh 1 r.length (lm (ik .u32) r))) (H83_0 : ∀ (a0 : List Int) r, tens_own_int64 fu a0 = some r → cp 83 [.arr a0.length (lm (ik .i64) a0)] = some (.fresh 1 r.length (lm (ik .i64) r))) (H84_0 : ∀ (a0 : List Bool) r, tens_own_bool fu a0 = some r → cp 84 [.arr a0.length (lm (bk) a0)] = some (.fresh 1 r.length (lm (bk) r))) : J (go Tryz.prog noC cp noI 0 [] d64 fu (fin Tryz.prog [.cell 2 28] [28]) (bodyOf Tryz.f64) (initE 0 [.agg (c_T_Tensor x1)]) [] []) (tens_Copy fu x1) e64 := by
 unfold tens_Copy e64
 refine J.bind fun x2 h1 => ?_
 have e_h1 := H81_0 _ _ h1
 try simp only [NN, NT, LN, simprocAttr, DT] at e_h1
 refine J.bind fun x3 h2 => ?_
 have e_h2 := H82_0 _ _ h2
 try simp only [NN, NT, LN, simprocAttr, DT] at e_h2
 refine J.bind fun x4 h3 => ?_
 have e_h3 := H83_0 _ _ h3
 try simp only [NN, NT, LN, simprocAttr, DT] at e_h3
 refine J.bind fun x5 h4 => ?_
 have e_h4 := H84_0 _ _ h4
 try simp only [NN, NT, LN, simprocAttr, DT] at e_h4
 refine J.some ?_
 simp (maxSteps := 20000000) (disch := first | exact Zd | fail) only [bodyOf, Tryz.f64, ZZ, d64_at, simprocAttr, e_h1, e_h2, e_h3, e_h4, FF, LN, NN, NT]
noncomputable def t64 (fu : Nat) : CallP := orE 81 (mkC (fun (t : List Int) => ([.arr t.length (lm (ik .i64) t)] : List AV)) (fun t => tens_own_int fu t) e81) (orE 82 (mkC (fun (t : List Int) => ([.arr t.length (lm (ik .u32) t)] : List AV)) (fun t => tens_own_uint32 fu t) e82) (orE 83 (mkC (fun (t : List Int) => ([.arr t.length (lm (ik .i64) t)] : List AV)) (fun t => tens_own_int64 fu t) e83) (orE 84 (mkC (fun (t : List Bool) => ([.arr t.length (lm (bk) t)] : List AV)) (fun t => tens_own_bool fu t) e84) (noP))))
theorem t64_ok (fu : Nat) : CpOK Tryz.prog (t64 fu ) := orE_ok (orE_ok (orE_ok (orE_ok (noP_ok) (mkC_ok (fun t b h => ok84 fu t  b h))) (mkC_ok (fun t b h => ok83 fu t  b h))) (mkC_ok (fun t b h => ok82 fu t  b h))) (mkC_ok (fun t b h => ok81 fu t  b h))
theorem ok64 (fu : Nat) (x1 : T_Tensor) (r) (h : tens_Copy fu x1 = some r) : PureOK Tryz.prog 64 [.agg (c_T_Tensor x1)] (e64 r) :=
  pure_J mixed (cp := t64 fu ) (t64_ok fu  ) noI_ok i64 (w64 _ fu x1  (fun a0 r h => orE_hit (mkC_at (a := a0) (by intro a b h; first | (exact rfl) | (simp only [INJ, IJ] at h; first | exact h | (simp_all [Prod.ext_iff]) )) h)) (fun a0 r h => orE_miss (by decide) (orE_hit (mkC_at (a := a0) (by intro a b h; first | (exact rfl) | (simp only [INJ, IJ] at h; first | exact h | (simp_all [Prod.ext_iff]) )) h))) (fun a0 r h => orE_miss (by decide) (orE_miss (by decide) (orE_hit (mkC_at (a := a0) (by intro a b h; first | (exact rfl) | (simp only [INJ, IJ] at h; first | exact h | (simp_all [Prod.ext_iff]) )) h)))) (fun a0 r h => orE_miss (by decide) (orE_miss (by decide) (orE_miss (by decide) (orE_hit (mkC_at (a := a0) (by intro a b h; first | (exact rfl) | (simp only [INJ, IJ] at h; first | exact h | (simp_all [Prod.ext_iff]) )) h)))))) h
/-! 109: lattice/soft.Abs -/
open Aw (d109)
def d109_at := by have h := tabL Aw.d109.eq_1; simp only [AllAt, Nat.zero_add, Nat.reduceAdd] at h; exact h
theorem i109 : finfo Tryz.prog 109 d109 = some ⟨bodyOf Tryz.f109, [.tmp 2], [23]⟩ := finfo_at Tryz.func109 rfl (by kernel_rfl) (by kernel_rfl)
def e109 : Int → AV := fun r => .v (.int .u32 r)
set_option maxHeartbeats 20000000 in
theorem w109 (cp : CallP) (fu : Nat) (x1 : Int) : J (go Tryz.prog noC cp noI 0 [] d109 fu (fin Tryz.prog [.tmp 2] [23]) (bodyOf Tryz.f109) (initE 0 [.v (.int .u32 x1)]) [] []) (soft_Abs fu x1) e109 := by
 unfold soft_Abs e109
 refine J.some ?_
 simp (maxSteps := 20000000) (disch := first | exact Zd | fail) only [bodyOf, Tryz.f109, ZZ, d109_at, simprocAttr, FF, LN, NN, NT]
noncomputable def t109 (fu : Nat) : CallP := noP
theorem t109_ok (fu : Nat) : CpOK Tryz.prog (t109 fu ) := noP_ok
theorem ok109 (fu : Nat) (x1 : Int) (r) (h : soft_Abs fu x1 = some r) : PureOK Tryz.prog 109 [.v (.int .u32 x1)] (e109 r) :=
  pure_J mixed (cp := t109 fu ) (t109_ok fu  ) noI_ok i109 (w109 _ fu x1  ) h
/-! 85: lattice/soft.NaN -/
open Aw (d85)
def d85_at := by have h := tabL Aw.d85.eq_1; simp only [AllAt, Nat.zero_add, Nat.reduceAdd] at h; exact h
theorem i85 : finfo Tryz.prog 85 d85 = some ⟨bodyOf Tryz.f85, [.tmp 2], [4]⟩ := finfo_at Tryz.func85 rfl (by kernel_rfl) (by kernel_rfl)
def e85 : Bool → AV := fun r => .v (.bool r)
set_option maxHeartbeats 20000000 in
theorem w85 (cp : CallP) (fu : Nat) (x1 : Int) (H109_0 : ∀ (a0 : Int) r, soft_Abs fu a0 = some r → cp 109 [.v (.int .u32 a0)] = some (.v (.int .u32 r))) : J (go Tryz.prog noC cp noI 0 [] d85 fu (fin Tryz.prog [.tmp 2] [4]) (bodyOf Tryz.f85) (initE 0 [.v (.int .u32 x1)]) [] []) (soft_NaN fu x1) e85 := by
 unfold soft_NaN e85
 refine J.bind fun x2 h1 => ?_
 have e_h1 := H109_0 _ _ h1
 try simp only [NN, NT, LN, simprocAttr, DT] at e_h1
 refine J.some ?_
 simp (maxSteps := 20000000) (disch := first | exact Zd | fail) only [bodyOf, Tryz.f85, ZZ, d85_at, simprocAttr, e_h1, FF, LN, NN, NT]
noncomputable def t85 (fu : Nat) : CallP := orE 109 (mkC (fun (t : Int) => ([.v (.int .u32 t)] : List AV)) (fun t => soft_Abs fu t) e109) (noP)
theorem t85_ok (fu : Nat) : CpOK Tryz.prog (t85 fu ) := orE_ok (noP_ok) (mkC_ok (fun t b h => ok109 fu t  b h))
theorem ok85 (fu : Nat) (x1 : Int) (r) (h : soft_NaN fu x1 = some r) : PureOK Tryz.prog 85 [.v (.int .u32 x1)] (e85 r) :=
  pure_J mixed (cp := t85 fu ) (t85_ok fu  ) noI_ok i85 (w85 _ fu x1  (fun a0 r h => orE_hit (mkC_at (a := a0) (by intro a b h; first | (exact rfl) | (simp only [INJ, IJ] at h; first | exact h | (simp_all [Prod.ext_iff]) )) h))) h
/-! 65: lattice/soft.Canon -/
open Aw (d65)
def d65_at := by have h := tabL Aw.d65.eq_1; simp only [AllAt, Nat.zero_add, Nat.reduceAdd] at h; exact h
theorem i65 : finfo Tryz.prog 65 d65 = some ⟨bodyOf Tryz.f65, [.tmp 2], [23]⟩ := finfo_at Tryz.func65 rfl (by kernel_rfl) (by kernel_rfl)
def e65 : Int → AV := fun r => .v (.int .u32 r)
set_option maxHeartbeats 20000000 in
theorem w65 (cp : CallP) (fu : Nat) (x1 : Int) (H85_0 : ∀ (a0 : Int) r, soft_NaN fu a0 = some r → cp 85 [.v (.int .u32 a0)] = some (.v (.bool r))) : J (go Tryz.prog noC cp noI 0 [] d65 fu (fin Tryz.prog [.tmp 2] [23]) (bodyOf Tryz.f65) (initE 0 [.v (.int .u32 x1)]) [] []) (soft_Canon fu x1) e65 := by
 unfold soft_Canon e65
 conv => arg 1; simp (disch := first | exact Zd | fail) only [bodyOf, Tryz.f65, ZZ, d65_at, simprocAttr]
 refine J.eq go_seq ?_
 refine J.bind fun x2 h1 => ?_
 have e_h1 := H85_0 _ _ h1
 try simp only [NN, NT, LN, simprocAttr, DT] at e_h1
 conv => arg 1; simp (disch := first | exact Zd | fail) only [ZZ, d65_at, simprocAttr, e_h1]
 refine J.ite (fun h2 => ?_) (fun h2 => ?_)
 ·have h2' : x2 = true := h2
  refine J.some ?_
  simp (maxSteps := 20000000) (disch := first | exact Zd | fail) only [ZZ, d65_at, simprocAttr, e_h1, h2', FF, LN, NN, NT]
 ·have h2' : x2 = false := Bool.eq_false_iff.2 h2
  conv => arg 1; simp (disch := first | exact Zd | fail) only [ZZ, d65_at, simprocAttr, e_h1, h2']
  refine J.eq ret_seq ?_
  refine J.some ?_
  simp (maxSteps := 20000000) (disch := first | exact Zd | fail) only [ZZ, d65_at, simprocAttr, e_h1, h2', FF, LN, NN, NT]
noncomputable def t65 (fu : Nat) : CallP := orE 85 (mkC (fun (t : Int) => ([.v (.int .u32 t)] : List AV)) (fun t => soft_NaN fu t) e85) (noP)
theorem t65_ok (fu : Nat) : CpOK Tryz.prog (t65 fu ) := orE_ok (noP_ok) (mkC_ok (fun t b h => ok85 fu t  b h))
theorem ok65 (fu : Nat) (x1 : Int) (r) (h : soft_Canon fu x1 = some r) : PureOK Tryz.prog 65 [.v (.int .u32 x1)] (e65 r) :=
  pure_J mixed (cp := t65 fu ) (t65_ok fu  ) noI_ok i65 (w65 _ fu x1  (fun a0 r h => orE_hit (mkC_at (a := a0) (by intro a b h; first | (exact rfl) | (simp only [INJ, IJ] at h; first | exact h | (simp_all [Prod.ext_iff]) )) h))) h
/-! 36: lattice/tens.Canon -/
open Aw (d36)
def d36_at := by have h := tabL Aw.d36.eq_1; simp only [AllAt, Nat.zero_add, Nat.reduceAdd] at h; exact h
theorem i36 : finfo Tryz.prog 36 d36 = some ⟨bodyOf Tryz.f36, [.cell 2 28], [28]⟩ := finfo_at Tryz.func36 rfl (by kernel_rfl) (by kernel_rfl)
def e36 : T_Tensor → AV := fun r => .agg [.v (.int .i64 r.fType), .fresh 1 r.fDims.length (lm (ik .i64) r.fDims), .fresh 1 r.fF.length (lm (ik .u32) r.fF), .fresh 1 r.fI.length (lm (ik .i64) r.fI), .fresh 1 r.fB.length (lm (bk) r.fB)]
set_option maxHeartbeats 20000000 in
theorem w36 (cp : CallP) (fu : Nat) (x1 : T_Tensor) (H64_0 : ∀ (a0 : T_Tensor) r, tens_Copy fu a0 = some r → cp 64 [.agg (c_T_Tensor a0)] = some (.agg [.v (.int .i64 r.fType), .fresh 1 r.fDims.length (lm (ik .i64) r.fDims), .fresh 1 r.fF.length (lm (ik .u32) r.fF), .fresh 1 r.fI.length (lm (ik .i64) r.fI), .fresh 1 r.fB.length (lm (bk) r.fB)])) (H65_0 : ∀ (a0 : Int) r, soft_Canon fu a0 = some r → cp 65 [.v (.int .u32 a0)] = some (.v (.int .u32 r))) : J (go Tryz.prog noC cp noI 0 [] d36 fu (fin Tryz.prog [.cell 2 28] [28]) (bodyOf Tryz.f36) (initE 0 [.agg (c_T_Tensor x1)]) [] []) (tens_Canon fu x1) e36 := by
 unfold tens_Canon e36
 refine J.bind fun x2 h1 => ?_
 have e_h1 := H64_0 _ _ h1
 try simp only [NN, NT, LN, simprocAttr, DT] at e_h1
 conv => arg 1; simp (disch := first | exact Zd | fail) only [bodyOf, Tryz.f36, ZZ, d36_at, simprocAttr, e_h1]
 refine J.eq go_seq ?_
 conv => arg 1; simp (disch := first | exact Zd | fail) only [ZZ, d36_at, simprocAttr, e_h1]
 unfold tens_Canon_W1
 refine J.loop (fun (s : (List Int) × Int) => ([(2, .ptr (0, 2, 0) 0 0), (3, .ptr (0, 3, 0) 0 0), (9, .own (0, 7, 1) 0 s.1.length s.1.length), (10, .v (.int .i64 ((x2.fF.length : Nat) : Int))), (11, .v (.int .i64 s.2))], [((0, 2, 0), .bx true ([.v (.int .i64 0), .v (.slice none 0 0), .v (.slice none 0 0), .v (.slice none 0 0), .v (.slice none 0 0)])), ((0, 7, 0), .sl true true 1 x2.fDims.length (lm (ik .i64) x2.fDims)), ((0, 7, 1), .sl true true 1 s.1.length (lm (ik .u32) s.1)), ((0, 7, 2), .sl true true 1 x2.fI.length (lm (ik .i64) x2.fI)), ((0, 7, 3), .sl true true 1 x2.fB.length (lm (bk) x2.fB)), ((0, 3, 0), .bx true ([.v (.int .i64 x2.fType), .own (0, 7, 0) 0 x2.fDims.length x2.fDims.length, .own (0, 7, 1) 0 s.1.length s.1.length, .own (0, 7, 2) 0 x2.fI.length x2.fI.length, .own (0, 7, 3) 0 x2.fB.length x2.fB.length]))])) (fun next s => tens_Canon_L1 fu x2 (fun x5 x6 => next (x5, x6)) s.1 s.2) (s0 := (x2.fF, 0)) ?_ ?_ ?_
 ·first | rfl | (simp only [LN, NN, NT])
 ·first | (simp (disch := first | exact Zd | fail) only [RR, simprocAttr, LN, NN, NT]; done) | (simp (disch := first | exact Zd | fail) only [RR, simprocAttr, LN, fm_app, NN, NT]; done) | rfl
 rintro next k1 hn1 ⟨x5, x6⟩
 let nx1 : (List Int) → Int → Option T_Tensor := (fun x5 x6 => next (x5, x6))
 show J _ (tens_Canon_L1 fu x2 nx1 x5 x6) _
 unfold tens_Canon_L1
 conv => arg 1; simp (disch := first | exact Zd | fail) only [ZZ, d36_at, simprocAttr, e_h1]
 refine J.eq go_seq ?_
 conv => arg 1; simp (disch := first | exact Zd | fail) only [ZZ, d36_at, simprocAttr, e_h1]
 refine J.ite (fun h2 => ?_) (fun h2 => ?_)
 ·have h2' := decide_eq_true h2
  have h2'' : decide (((x2.fF.length : Nat) : Int) ≤ x6) = false := decide_eq_false (by omega)
  conv => arg 1; simp (disch := first | exact Zd | fail) only [ZZ, d36_at, simprocAttr, e_h1, h2'', h2']
  refine J.eq ret_seq ?_
  refine J.eq go_seq ?_
  refine J.at fun x9 h3 h4 h5 => ?_
  refine J.bind fun x10 h6 => ?_
  have e_h6 := H65_0 _ _ h6
  try simp only [NN, NT, LN, simprocAttr, DT] at e_h6
  refine J.chk fun h7 => ?_
  conv => arg 1; simp (disch := first | exact Zd | fail) only [ZZ, d36_at, simprocAttr, e_h1, h2'', h2', lm_ik h5, e_h6]
  refine J.eq ret_seq ?_
  conv => arg 1; simp (disch := first | exact Zd | fail) only [ZZ, d36_at, simprocAttr, e_h1, h2'', h2', lm_ik h5, e_h6]
  refine J.next (s := (x5.set x6.toNat x10, wk .i64 (x6 + 1))) hn1 ?_ ?_
  ·first | rfl | (simp only [LN, NN, NT])
  ·first | (simp (disch := first | exact Zd | fail) only [RR, simprocAttr, LN, NN, NT]; done) | (simp (disch := first | exact Zd | fail) only [RR, simprocAttr, LN, fm_app, NN, NT]; done) | rfl
 ·have h2' := decide_eq_false h2
  have h2'' : decide (((x2.fF.length : Nat) : Int) ≤ x6) = true := decide_eq_true (by omega)
  conv => arg 1; simp (disch := first | exact Zd | fail) only [ZZ, d36_at, simprocAttr, e_h1, h2'', h2']
  refine J.eq ret_seq ?_
  refine J.some ?_
  simp (maxSteps := 20000000) (disch := first | exact Zd | fail) only [ZZ, d36_at, simprocAttr, e_h1, h2'', h2', FF, LN, NN, NT]
noncomputable def t36 (fu : Nat) : CallP := orE 64 (mkC (fun (t : T_Tensor) => ([.agg (c_T_Tensor t)] : List AV)) (fun t => tens_Copy fu t) e64) (orE 65 (mkC (fun (t : Int) => ([.v (.int .u32 t)] : List AV)) (fun t => soft_Canon fu t) e65) (noP))
theorem t36_ok (fu : Nat) : CpOK Tryz.prog (t36 fu ) := orE_ok (orE_ok (noP_ok) (mkC_ok (fun t b h => ok65 fu t  b h))) (mkC_ok (fun t b h => ok64 fu t  b h))
theorem ok36 (fu : Nat) (x1 : T_Tensor) (r) (h : tens_Canon fu x1 = some r) : PureOK Tryz.prog 36 [.agg (c_T_Tensor x1)] (e36 r) :=
  pure_J mixed (cp := t36 fu ) (t36_ok fu  ) noI_ok i36 (w36 _ fu x1  (fun a0 r h => orE_hit (mkC_at (a := a0) (by intro a b h; first | (exact rfl) | (simp only [INJ, IJ] at h; first | exact h | (simp_all [Prod.ext_iff]) )) h)) (fun a0 r h => orE_miss (by decide) (orE_hit (mkC_at (a := a0) (by intro a b h; first | (exact rfl) | (simp only [INJ, IJ] at h; first | exact h | (simp_all [Prod.ext_iff]) )) h)))) h
/-! 70: slices.Clone[[]int,int] -/
def d70 : List (Nat × List Nat) := [(0, [2]), (0, []), (0, [3]), (0, []), (0, []), (0, []), (0, [0, 5, 6, 7])]
def d70_at := And.intro (show d70.getD 0 (0, []) = (0, [2]) from rfl) <| And.intro (show d70.getD 1 (0, []) = (0, []) from rfl) <| And.intro (show d70.getD 2 (0, []) = (0, [3]) from rfl) <| And.intro (show d70.getD 3 (0, []) = (0, []) from rfl) <| And.intro (show d70.getD 4 (0, []) = (0, []) from rfl) <| And.intro (show d70.getD 5 (0, []) = (0, []) from rfl) <| (show d70.getD 6 (0, []) = (0, [0, 5, 6, 7]) from rfl)
theorem i70 : finfo Tryz.prog 70 d70 = some ⟨bodyOf Tryz.f70, [.tmp 2], [22]⟩ := finfo_at Tryz.func70 rfl (by kernel_rfl) (by kernel_rfl)
def e70 : List Int → AV := fun r => .fresh 1 r.length (lm (ik .i64) r)
theorem ok70 (fu : Nat) (x1 : List Int) (r) (h : slices_Clone_int fu x1 = some r) : PureOK Tryz.prog 70 [.arr x1.length (lm (ik .i64) x1)] (e70 r) := by
  unfold slices_Clone_int chk at h
  split at h
  · rename_i hs; injection h with h; subst h
    cases x1 with
    | nil =>
      refine PureOK.arr0 fun a c => ?_
      refine pure_J mixed (C := noC) (cp := noP) (n := 0) noP_ok noI_ok i70 (s := some []) (enc := e70) ?_ rfl
      refine J.some ?_
      unfold e70
      cases a with
      | none =>
        conv => lhs; simp (disch := first | exact Zd | fail) only [bodyOf, Tryz.f70, ZZ, d70_at, simprocAttr, abin_sl tv22]
        rw [go_seq]
        simp (disch := first | exact Zd | fail) only [ZZ, d70_at, simprocAttr, abin_sl tv22, FF, NN, NT]
      | some a =>
        conv => lhs; simp (disch := first | exact Zd | fail) only [bodyOf, Tryz.f70, ZZ, d70_at, simprocAttr, abin_sl tv22]
        rw [go_seq]
        conv => lhs; simp (disch := first | exact Zd | fail) only [ZZ, d70_at, simprocAttr, abin_sl tv22]
        rw [ret_seq]
        simp (disch := first | exact Zd | fail) only [ZZ, d70_at, simprocAttr, abin_sl tv22, FF, NN, NT]
    | cons y x1 =>
      refine pure_J mixed (C := noC) (cp := noP) (n := 0) noP_ok noI_ok i70 (s := some (y :: x1)) (enc := e70) ?_ rfl
      refine J.some ?_
      have ha : ∀ xs, abin Tryz.prog .eql 22 (.arr (y :: x1).length xs) (.v (.slice none 0 0)) = some (.v (.bool false)) := fun xs => abin_an (op := .eql) tv22 (by simp)
      generalize y :: x1 = l at hs ha ⊢
      unfold e70
      conv => lhs; simp (disch := first | exact Zd | fail) only [bodyOf, Tryz.f70, ZZ, d70_at, simprocAttr, abin_sl tv22, ha]
      rw [go_seq]
      conv => lhs; simp (disch := first | exact Zd | fail) only [ZZ, d70_at, simprocAttr, abin_sl tv22, ha]
      rw [ret_seq]
      simp (disch := first | exact Zd | fail) only [ZZ, d70_at, simprocAttr, abin_sl tv22, FF, NN, NT, lm_length]
  · cases h
/-! 38: lattice/ewise.Vals -/
open Aw (d38)
def d38_at := by have h := tabL Aw.d38.eq_1; simp only [AllAt, Nat.zero_add, Nat.reduceAdd] at h; exact h
theorem i38 : finfo Tryz.prog 38 d38 = some ⟨bodyOf Tryz.f38, [.tmp 2], [73]⟩ := finfo_at Tryz.func38 rfl (by kernel_rfl) (by kernel_rfl)
def e38 : (List T_Val) → AV := fun r => .arr r.length (fm c_T_Val r)
set_option maxHeartbeats 20000000 in
theorem w38 (cp : CallP) (fu : Nat) (x1 : List T_Tensor) (H70_0 : ∀ (a0 : List Int) r, slices_Clone_int fu a0 = some r → cp 70 [.arr a0.length (lm (ik .i64) a0)] = some (.fresh 1 r.length (lm (ik .i64) r))) (H64_0 : ∀ (a0 : T_Tensor) r, tens_Copy fu a0 = some r → cp 64 [.agg (c_T_Tensor a0)] = some (.agg [.v (.int .i64 r.fType), .fresh 1 r.fDims.length (lm (ik .i64) r.fDims), .fresh 1 r.fF.length (lm (ik .u32) r.fF), .fresh 1 r.fI.length (lm (ik .i64) r.fI), .fresh 1 r.fB.length (lm (bk) r.fB)])) : J (go Tryz.prog noC cp noI 0 [] d38 fu (finS Tryz.prog [.tmp 2] [73]) (bodyOf Tryz.f38) (initE 0 [.arr x1.length (fm c_T_Tensor x1)]) [] []) (ewise_Vals fu x1) e38 := by
 unfold ewise_Vals e38
 conv => arg 1; simp (disch := first | exact Zd | fail) only [bodyOf, Tryz.f38, ZZ, d38_at, simprocAttr, SE]
 refine J.eq go_seq ?_
 conv => arg 1; simp (disch := first | exact Zd | fail) only [ZZ, d38_at, simprocAttr, SE]
 unfold ewise_Vals_W1
 refine J.loop (fun (s : (List T_Val) × Int) => ([(3, .own (0, 3, 77) 0 s.1.length s.1.length), (7, .arr x1.length (fm c_T_Tensor x1)), (8, .v (.int .i64 (x1.length : Int))), (9, .v (.int .i64 s.2))], [((0, 3, 77), .sl true true 8 s.1.length (fm c_T_Val s.1))])) (fun next s => ewise_Vals_L1 fu x1 (fun x5 x6 => next (x5, x6)) s.1 s.2) (s0 := (([] : List T_Val), 0)) ?_ ?_ ?_
 ·first | rfl | (simp only [LN, NN, NT])
 ·first | (simp (disch := first | exact Zd | fail) only [RR, simprocAttr, LN, NN, NT]; done) | (simp (disch := first | exact Zd | fail) only [RR, simprocAttr, LN, fm_app, NN, NT]; done) | rfl
 rintro next k1 hn1 ⟨x5, x6⟩
 let nx1 : (List T_Val) → Int → Option (List T_Val) := (fun x5 x6 => next (x5, x6))
 show J _ (ewise_Vals_L1 fu x1 nx1 x5 x6) _
 unfold ewise_Vals_L1
 conv => arg 1; simp (disch := first | exact Zd | fail) only [ZZ, d38_at, simprocAttr, SE]
 refine J.eq go_seq ?_
 conv => arg 1; simp (disch := first | exact Zd | fail) only [ZZ, d38_at, simprocAttr, SE]
 refine J.ite (fun h1 => ?_) (fun h1 => ?_)
 ·have h1' := decide_eq_true h1
  have h1'' : decide ((x1.length : Int) ≤ x6) = false := decide_eq_false (by omega)
  conv => arg 1; simp (disch := first | exact Zd | fail) only [ZZ, d38_at, simprocAttr, SE, h1'', h1']
  refine J.eq ret_seq ?_
  refine J.eq go_seq ?_
  refine J.at fun x10 h2 h3 h4 => ?_
  conv => arg 1; simp (disch := first | exact Zd | fail) only [ZZ, d38_at, simprocAttr, SE, h1'', h1', fm_cut c_T_Tensor_len h4, fm_fit c_T_Tensor_len h4, fm_at c_T_Tensor_len h4, fm_at0 c_T_Tensor_len h4]
  refine J.eq go_seq ?_
  conv => arg 1; simp (disch := first | exact Zd | fail) only [ZZ, d38_at, simprocAttr, SE, h1'', h1', fm_cut c_T_Tensor_len h4, fm_fit c_T_Tensor_len h4, fm_at c_T_Tensor_len h4, fm_at0 c_T_Tensor_len h4]
  refine J.ite (fun h5 => ?_) (fun h5 => ?_)
  ·have h5' := decide_eq_true h5
   conv => arg 1; simp (disch := first | exact Zd | fail) only [ZZ, d38_at, simprocAttr, SE, h1'', h1', fm_cut c_T_Tensor_len h4, fm_fit c_T_Tensor_len h4, fm_at c_T_Tensor_len h4, fm_at0 c_T_Tensor_len h4, h5']
   refine J.eq ret_seq ?_
   refine J.chk fun h6 => ?_
   conv => arg 1; simp (disch := first | exact Zd | fail) only [ZZ, d38_at, simprocAttr, SE, h1'', h1', fm_cut c_T_Tensor_len h4, fm_fit c_T_Tensor_len h4, fm_at c_T_Tensor_len h4, fm_at0 c_T_Tensor_len h4, h5']
   refine J.eq ret_seq ?_
   conv => arg 1; simp (disch := first | exact Zd | fail) only [ZZ, d38_at, simprocAttr, SE, h1'', h1', fm_cut c_T_Tensor_len h4, fm_fit c_T_Tensor_len h4, fm_at c_T_Tensor_len h4, fm_at0 c_T_Tensor_len h4, h5']
   refine J.next (s := (x5 ++ ([T_Val.mk 0 ([]) false (T_Tensor.mk 0 ([]) ([]) ([]) ([]))]), wk .i64 (x6 + 1))) hn1 ?_ ?_
   ·first | rfl | (simp only [LN, NN, NT])
   ·first | (simp (disch := first | exact Zd | fail) only [RR, simprocAttr, LN, NN, NT]; done) | (simp (disch := first | exact Zd | fail) only [RR, simprocAttr, LN, fm_app, NN, NT]; done) | rfl
  ·have h5' := decide_eq_false h5
   refine J.bind fun x11 h7 => ?_
   have e_h7 := H70_0 _ _ h7
   try simp only [NN, NT, LN, simprocAttr, DT] at e_h7
   refine J.bind fun x12 h8 => ?_
   have e_h8 := H64_0 _ _ h8
   try simp only [NN, NT, LN, simprocAttr, DT] at e_h8
   conv => arg 1; simp (disch := first | exact Zd | fail) only [ZZ, d38_at, simprocAttr, SE, h1'', h1', fm_cut c_T_Tensor_len h4, fm_fit c_T_Tensor_len h4, fm_at c_T_Tensor_len h4, fm_at0 c_T_Tensor_len h4, h5', e_h7, e_h8]
   refine J.eq ret_seq ?_
   refine J.chk fun h9 => ?_
   conv => arg 1; simp (disch := first | exact Zd | fail) only [ZZ, d38_at, simprocAttr, SE, h1'', h1', fm_cut c_T_Tensor_len h4, fm_fit c_T_Tensor_len h4, fm_at c_T_Tensor_len h4, fm_at0 c_T_Tensor_len h4, h5', e_h7, e_h8]
   refine J.eq ret_seq ?_
   conv => arg 1; simp (disch := first | exact Zd | fail) only [ZZ, d38_at, simprocAttr, SE, h1'', h1', fm_cut c_T_Tensor_len h4, fm_fit c_T_Tensor_len h4, fm_at c_T_Tensor_len h4, fm_at0 c_T_Tensor_len h4, h5', e_h7, e_h8]
   refine J.next (s := (x5 ++ ([T_Val.mk x10.fType x11 true x12]), wk .i64 (x6 + 1))) hn1 ?_ ?_
   ·first | rfl | (simp only [LN, NN, NT])
   ·first | (simp (disch := first | exact Zd | fail) only [RR, simprocAttr, LN, NN, NT]; done) | (simp (disch := first | exact Zd | fail) only [RR, simprocAttr, LN, fm_app, NN, NT]; done) | rfl
 ·have h1' := decide_eq_false h1
  have h1'' : decide ((x1.length : Int) ≤ x6) = true := decide_eq_true (by omega)
  conv => arg 1; simp (disch := first | exact Zd | fail) only [ZZ, d38_at, simprocAttr, SE, h1'', h1']
  refine J.eq ret_seq ?_
  refine J.some ?_
  simp (maxSteps := 20000000) (disch := first | exact Zd | fail) only [ZZ, d38_at, simprocAttr, SE, h1'', h1', FF, LN, NN, NT]
noncomputable def t38 (fu : Nat) : CallP := orE 70 (mkC (fun (t : List Int) => ([.arr t.length (lm (ik .i64) t)] : List AV)) (fun t => slices_Clone_int fu t) e70) (orE 64 (mkC (fun (t : T_Tensor) => ([.agg (c_T_Tensor t)] : List AV)) (fun t => tens_Copy fu t) e64) (noP))
theorem t38_ok (fu : Nat) : CpOK Tryz.prog (t38 fu ) := orE_ok (orE_ok (noP_ok) (mkC_ok (fun t b h => ok64 fu t  b h))) (mkC_ok (fun t b h => ok70 fu t  b h))
theorem ok38 (fu : Nat) (x1 : List T_Tensor) (r) (h : ewise_Vals fu x1 = some r) : PureOK Tryz.prog 38 [.arr x1.length (fm c_T_Tensor x1)] (e38 r) :=
  pureS_J mixed (cp := t38 fu ) (t38_ok fu  ) noI_ok i38 (w38 _ fu x1  (fun a0 r h => orE_hit (mkC_at (a := a0) (by intro a b h; first | (exact rfl) | (simp only [INJ, IJ] at h; first | exact h | (simp_all [Prod.ext_iff]) )) h)) (fun a0 r h => orE_miss (by decide) (orE_hit (mkC_at (a := a0) (by intro a b h; first | (exact rfl) | (simp only [INJ, IJ] at h; first | exact h | (simp_all [Prod.ext_iff]) )) h)))) h
/-! 86: lattice/ops.Arity -/
def e86 : (Int × Int × Int × Int) → AV := fun r => .tuple [.v (.int .i64 r.1), .v (.int .i64 r.2.1), .v (.int .i64 r.2.2.1), .v (.int .i64 r.2.2.2)]
theorem ok86 (fu : Nat) (x1 : Int) (r) (h : ops_Arity fu x1 = some r) : PureOK Tryz.prog 86 [.v (.int .i64 x1)] (e86 r) := by
  unfold ops_Arity chk at h
  split at h
  · rename_i hx; injection h with h; subst h
    obtain rfl := hx
    exact closed86
  · cases h
/-! 103: (lattice/infer.ask).val -/
open Aw (d103)
def d103_at := by have h := tabL Aw.d103.eq_1; simp only [AllAt, Nat.zero_add, Nat.reduceAdd] at h; exact h
theorem i103 : finfo Tryz.prog 103 d103 = some ⟨bodyOf Tryz.f103, [.cell 4 78], [78]⟩ := finfo_at Tryz.func103 rfl (by kernel_rfl) (by kernel_rfl)
def e103 : T_Val → AV := fun r => .agg [.v (.int .i64 r.fType), .arr r.fDims.length (lm (ik .i64) r.fDims), .v (.bool r.fConst), .v (.int .i64 r.fT.fType), .arr r.fT.fDims.length (lm (ik .i64) r.fT.fDims), .arr r.fT.fF.length (lm (ik .u32) r.fT.fF), .arr r.fT.fI.length (lm (ik .i64) r.fT.fI), .arr r.fT.fB.length (lm (bk) r.fT.fB)]
set_option maxHeartbeats 20000000 in
theorem w103 (cp : CallP) (fu : Nat) (x1 : T_infer_ask) (x2 : Int) : J (go Tryz.prog noC cp noI 0 [] d103 fu (finS Tryz.prog [.cell 4 78] [78]) (bodyOf Tryz.f103) (initE 0 [.agg (c_T_infer_ask x1), .v (.int .i64 x2)]) [] []) (infer_ask_val fu x1 x2) e103 := by
 unfold infer_ask_val e103
 refine J.chk fun h1 => ?_
 conv => arg 1; simp (disch := first | exact Zd | fail) only [bodyOf, Tryz.f103, ZZ, d103_at, simprocAttr, SE, h1]
 refine J.eq go_seq ?_
 conv => arg 1; simp (disch := first | exact Zd | fail) only [ZZ, d103_at, simprocAttr, SE, h1]
 refine J.ite (fun h2 => ?_) (fun h2 => ?_)
 ·have h2' := decide_eq_true h2
  have h2'' : decide ((x1.fin.length : Int) ≤ x2) = false := decide_eq_false (by omega)
  refine J.at fun x3 h3 h4 h5 => ?_
  refine J.some ?_
  simp (maxSteps := 20000000) (disch := first | exact Zd | fail) only [ZZ, d103_at, simprocAttr, SE, h1, h2'', h2', fm_cut c_T_Val_len h5, fm_fit c_T_Val_len h5, fm_at c_T_Val_len h5, fm_at0 c_T_Val_len h5, FF, LN, NN, NT]
 ·have h2' := decide_eq_false h2
  have h2'' : decide ((x1.fin.length : Int) ≤ x2) = true := decide_eq_true (by omega)
  conv => arg 1; simp (disch := first | exact Zd | fail) only [ZZ, d103_at, simprocAttr, SE, h1, h2'', h2']
  refine J.eq ret_seq ?_
  refine J.some ?_
  simp (maxSteps := 20000000) (disch := first | exact Zd | fail) only [ZZ, d103_at, simprocAttr, SE, h1, h2'', h2', FF, LN, NN, NT]
noncomputable def t103 (fu : Nat) : CallP := noP
theorem t103_ok (fu : Nat) : CpOK Tryz.prog (t103 fu ) := noP_ok
theorem ok103 (fu : Nat) (x1 : T_infer_ask) (x2 : Int) (r) (h : infer_ask_val fu x1 x2 = some r) : PureOK Tryz.prog 103 [.agg (c_T_infer_ask x1), .v (.int .i64 x2)] (e103 r) :=
  pureS_J mixed (cp := t103 fu ) (t103_ok fu  ) noI_ok i103 (w103 _ fu x1 x2  ) h
/-! 87: (lattice/infer.ask).has -/
open Aw (d87)
def d87_at := by have h := tabL Aw.d87.eq_1; simp only [AllAt, Nat.zero_add, Nat.reduceAdd] at h; exact h
theorem i87 : finfo Tryz.prog 87 d87 = some ⟨bodyOf Tryz.f87, [.tmp 4], [4]⟩ := finfo_at Tryz.func87 rfl (by kernel_rfl) (by kernel_rfl)
def e87 : Bool → AV := fun r => .v (.bool r)
set_option maxHeartbeats 20000000 in
theorem w87 (cp : CallP) (fu : Nat) (x1 : T_infer_ask) (x2 : Int) (H103_0 : ∀ (a0 : T_infer_ask) (a1 : Int) r, infer_ask_val fu a0 a1 = some r → cp 103 [.agg (c_T_infer_ask a0), .v (.int .i64 a1)] = some (.agg [.v (.int .i64 r.fType), .arr r.fDims.length (lm (ik .i64) r.fDims), .v (.bool r.fConst), .v (.int .i64 r.fT.fType), .arr r.fT.fDims.length (lm (ik .i64) r.fT.fDims), .arr r.fT.fF.length (lm (ik .u32) r.fT.fF), .arr r.fT.fI.length (lm (ik .i64) r.fT.fI), .arr r.fT.fB.length (lm (bk) r.fT.fB)])) : J (go Tryz.prog noC cp noI 0 [] d87 fu (fin Tryz.prog [.tmp 4] [4]) (bodyOf Tryz.f87) (initE 0 [.agg (c_T_infer_ask x1), .v (.int .i64 x2)]) [] []) (infer_ask_has fu x1 x2) e87 := by
 unfold infer_ask_has e87
 refine J.chk fun h1 => ?_
 refine J.bind fun x3 h2 => ?_
 have e_h2 := H103_0 _ _ _ h2
 try simp only [NN, NT, LN, simprocAttr, DT] at e_h2
 refine J.some ?_
 simp (maxSteps := 20000000) (disch := first | exact Zd | fail) only [bodyOf, Tryz.f87, ZZ, d87_at, simprocAttr, h1, e_h2, FF, LN, NN, NT]
noncomputable def t87 (fu : Nat) : CallP := orE 103 (mkC (fun (t : T_infer_ask × Int) => ([.agg (c_T_infer_ask t.1), .v (.int .i64 t.2)] : List AV)) (fun t => infer_ask_val fu t.1 t.2) e103) (noP)
theorem t87_ok (fu : Nat) : CpOK Tryz.prog (t87 fu ) := orE_ok (noP_ok) (mkC_ok (fun t b h => ok103 fu t.1 t.2  b h))
theorem ok87 (fu : Nat) (x1 : T_infer_ask) (x2 : Int) (r) (h : infer_ask_has fu x1 x2 = some r) : PureOK Tryz.prog 87 [.agg (c_T_infer_ask x1), .v (.int .i64 x2)] (e87 r) :=
  pure_J mixed (cp := t87 fu ) (t87_ok fu  ) noI_ok i87 (w87 _ fu x1 x2  (fun a0 a1 r h => orE_hit (mkC_at (a := (a0, a1)) (by intro a b h; first | (exact rfl) | (simp only [INJ, IJ] at h; first | exact h | (simp_all [Prod.ext_iff]) )) h))) h
/-! 66: (lattice/infer.ask).complete -/
open Aw (d66)
def d66_at := by have h := tabL Aw.d66.eq_1; simp only [AllAt, Nat.zero_add, Nat.reduceAdd] at h; exact h
theorem i66 : finfo Tryz.prog 66 d66 = some ⟨bodyOf Tryz.f66, [.tmp 2], [4]⟩ := finfo_at Tryz.func66 rfl (by kernel_rfl) (by kernel_rfl)
def e66 : Bool → AV := fun r => .v (.bool r)
set_option maxHeartbeats 20000000 in
theorem w66 (cp : CallP) (fu : Nat) (x1 : T_infer_ask) (H86_0 : ∀ (a0 : Int) r, ops_Arity fu a0 = some r → cp 86 [.v (.int .i64 a0)] = some (.tuple [.v (.int .i64 r.1), .v (.int .i64 r.2.1), .v (.int .i64 r.2.2.1), .v (.int .i64 r.2.2.2)])) (H87_0 : ∀ (a0 : T_infer_ask) (a1 : Int) r, infer_ask_has fu a0 a1 = some r → cp 87 [.agg (c_T_infer_ask a0), .v (.int .i64 a1)] = some (.v (.bool r))) : J (go Tryz.prog noC cp noI 0 [] d66 fu (fin Tryz.prog [.tmp 2] [4]) (bodyOf Tryz.f66) (initE 0 [.agg (c_T_infer_ask x1)]) [] []) (infer_ask_complete fu x1) e66 := by
 unfold infer_ask_complete e66
 refine J.chk fun h1 => ?_
 refine J.bind fun x2 h2 => ?_
 have e_h2 := H86_0 _ _ h2
 try simp only [NN, NT, LN, simprocAttr, DT] at e_h2
 conv => arg 1; simp (disch := first | exact Zd | fail) only [bodyOf, Tryz.f66, ZZ, d66_at, simprocAttr, h1, e_h2]
 refine J.joinS (fun (t : Unit) => ([(1, .ptr (0, 1, 0) 0 0), (3, .v (.int .i64 x2.1))], [((0, 1, 0), .bx true ([.v (.int .i64 75), .v (.int .i64 x1.fs.fAxis), .arr x1.fs.fAxes.length (lm (ik .i64) x1.fs.fAxes), .v (.bool x1.fs.fHasAxes), .v (.bool x1.fs.fKeep), .v (.bool x1.fs.fNoop), .v (.bool x1.fs.fLast), .v (.bool x1.fs.fZero), .arr x1.fs.fPerm.length (lm (ik .i64) x1.fs.fPerm), .v (.bool x1.fs.fHasPerm), .v (.int .u32 x1.fs.fAlpha), .v (.int .u32 x1.fs.fBeta), .v (.int .u32 x1.fs.fEpsilon), .v (.bool x1.fs.fLow), .v (.bool x1.fs.fHigh), .v (.bool x1.fs.fFmod), .v (.int .i64 x1.fs.fTo), .v (.int .i64 x1.fs.fMode), .v (.bool x1.fs.fTransA), .v (.bool x1.fs.fTransB), .v (.int .i64 x1.fs.fGroup), .arr x1.fs.fKernel.length (lm (ik .i64) x1.fs.fKernel), .arr x1.fs.fStrides.length (lm (ik .i64) x1.fs.fStrides), .arr x1.fs.fPads.length (lm (ik .i64) x1.fs.fPads), .arr x1.fs.fDilations.length (lm (ik .i64) x1.fs.fDilations), .v (.int .i64 x1.fs.fAuto), .v (.bool x1.fs.fCeil), .v (.bool x1.fs.fCount), .v (.int .i64 x1.fs.fBlock), .v (.int .i64 x1.fs.fStart), .v (.int .i64 x1.fs.fEnd), .v (.bool x1.fs.fHasEnd), .v (.int .i64 x1.fs.fValue.fType), .arr x1.fs.fValue.fDims.length (lm (ik .i64) x1.fs.fValue.fDims), .arr x1.fs.fValue.fF.length (lm (ik .u32) x1.fs.fValue.fF), .arr x1.fs.fValue.fI.length (lm (ik .i64) x1.fs.fValue.fI), .arr x1.fs.fValue.fB.length (lm (bk) x1.fs.fValue.fB), .arr x1.fin.length (fm c_T_Val x1.fin), .v (.int .i64 x1.fouts)]))])) (fun t => infer_ask_complete_k1 fu x1 x2) ?_ (fun hj1 => ?_)
 ·rintro ⟨⟩
  show J _ (infer_ask_complete_k1 fu x1 x2) _
  unfold infer_ask_complete_k1
  refine J.eq go_seq ?_
  conv => arg 1; simp (disch := first | exact Zd | fail) only [ZZ, d66_at, simprocAttr, h1, e_h2]
  unfold infer_ask_complete_W1
  refine J.loop (fun (s : Int) => ([(1, .ptr (0, 1, 0) 0 0), (49, .v (.int .i64 x2.1)), (50, .v (.int .i64 s))], [((0, 1, 0), .bx true ([.v (.int .i64 75), .v (.int .i64 x1.fs.fAxis), .arr x1.fs.fAxes.length (lm (ik .i64) x1.fs.fAxes), .v (.bool x1.fs.fHasAxes), .v (.bool x1.fs.fKeep), .v (.bool x1.fs.fNoop), .v (.bool x1.fs.fLast), .v (.bool x1.fs.fZero), .arr x1.fs.fPerm.length (lm (ik .i64) x1.fs.fPerm), .v (.bool x1.fs.fHasPerm), .v (.int .u32 x1.fs.fAlpha), .v (.int .u32 x1.fs.fBeta), .v (.int .u32 x1.fs.fEpsilon), .v (.bool x1.fs.fLow), .v (.bool x1.fs.fHigh), .v (.bool x1.fs.fFmod), .v (.int .i64 x1.fs.fTo), .v (.int .i64 x1.fs.fMode), .v (.bool x1.fs.fTransA), .v (.bool x1.fs.fTransB), .v (.int .i64 x1.fs.fGroup), .arr x1.fs.fKernel.length (lm (ik .i64) x1.fs.fKernel), .arr x1.fs.fStrides.length (lm (ik .i64) x1.fs.fStrides), .arr x1.fs.fPads.length (lm (ik .i64) x1.fs.fPads), .arr x1.fs.fDilations.length (lm (ik .i64) x1.fs.fDilations), .v (.int .i64 x1.fs.fAuto), .v (.bool x1.fs.fCeil), .v (.bool x1.fs.fCount), .v (.int .i64 x1.fs.fBlock), .v (.int .i64 x1.fs.fStart), .v (.int .i64 x1.fs.fEnd), .v (.bool x1.fs.fHasEnd), .v (.int .i64 x1.fs.fValue.fType), .arr x1.fs.fValue.fDims.length (lm (ik .i64) x1.fs.fValue.fDims), .arr x1.fs.fValue.fF.length (lm (ik .u32) x1.fs.fValue.fF), .arr x1.fs.fValue.fI.length (lm (ik .i64) x1.fs.fValue.fI), .arr x1.fs.fValue.fB.length (lm (bk) x1.fs.fValue.fB), .arr x1.fin.length (fm c_T_Val x1.fin), .v (.int .i64 x1.fouts)]))])) (fun next s => infer_ask_complete_L1 fu x1 x2 next s) (s0 := 0) ?_ ?_ ?_
  ·first | rfl | (simp only [LN, NN, NT])
  ·first | (simp (disch := first | exact Zd | fail) only [RR, simprocAttr, LN, NN, NT]; done) | (simp (disch := first | exact Zd | fail) only [RR, simprocAttr, LN, fm_app, NN, NT]; done) | rfl
  rintro nx1 k1 hn1 x4
  show J _ (infer_ask_complete_L1 fu x1 x2 nx1 x4) _
  unfold infer_ask_complete_L1
  conv => arg 1; simp (disch := first | exact Zd | fail) only [ZZ, d66_at, simprocAttr, h1, e_h2]
  refine J.eq go_seq ?_
  conv => arg 1; simp (disch := first | exact Zd | fail) only [ZZ, d66_at, simprocAttr, h1, e_h2]
  refine J.ite (fun h3 => ?_) (fun h3 => ?_)
  ·have h3' := decide_eq_true h3
   have h3'' : decide (x2.1 ≤ x4) = false := decide_eq_false (by omega)
   conv => arg 1; simp (disch := first | exact Zd | fail) only [ZZ, d66_at, simprocAttr, h1, e_h2, h3'', h3']
   refine J.eq ret_seq ?_
   refine J.eq go_seq ?_
   refine J.bind fun x6 h4 => ?_
   have e_h4 := H87_0 _ _ _ h4
   try simp only [NN, NT, LN, simprocAttr, DT] at e_h4
   conv => arg 1; simp (disch := first | exact Zd | fail) only [ZZ, d66_at, simprocAttr, h1, e_h2, h3'', h3', e_h4]
   refine J.ite (fun h5 => ?_) (fun h5 => ?_)
   ·have h5' : x6 = true := h5
    conv => arg 1; simp (disch := first | exact Zd | fail) only [ZZ, d66_at, simprocAttr, h1, e_h2, h3'', h3', e_h4, h5']
    refine J.eq ret_seq ?_
    conv => arg 1; simp (disch := first | exact Zd | fail) only [ZZ, d66_at, simprocAttr, h1, e_h2, h3'', h3', e_h4, h5']
    refine J.next (s := wk .i64 (x4 + 1)) hn1 ?_ ?_
    ·first | rfl | (simp only [LN, NN, NT])
    ·first | (simp (disch := first | exact Zd | fail) only [RR, simprocAttr, LN, NN, NT]; done) | (simp (disch := first | exact Zd | fail) only [RR, simprocAttr, LN, fm_app, NN, NT]; done) | rfl
   ·have h5' : x6 = false := Bool.eq_false_iff.2 h5
    refine J.some ?_
    simp (maxSteps := 20000000) (disch := first | exact Zd | fail) only [ZZ, d66_at, simprocAttr, h1, e_h2, h3'', h3', e_h4, h5', FF, LN, NN, NT]
  ·have h3' := decide_eq_false h3
   have h3'' : decide (x2.1 ≤ x4) = true := decide_eq_true (by omega)
   conv => arg 1; simp (disch := first | exact Zd | fail) only [ZZ, d66_at, simprocAttr, h1, e_h2, h3'', h3']
   refine J.eq ret_seq ?_
   refine J.some ?_
   simp (maxSteps := 20000000) (disch := first | exact Zd | fail) only [ZZ, d66_at, simprocAttr, h1, e_h2, h3'', h3', FF, LN, NN, NT]
 ·refine J.eq go_seq ?_
  conv => arg 1; simp (disch := first | exact Zd | fail) only [ZZ, d66_at, simprocAttr, h1, e_h2]
  refine J.ite (fun h6 => ?_) (fun h6 => ?_)
  ·have h6' := decide_eq_true h6
   conv => arg 1; simp (disch := first | exact Zd | fail) only [ZZ, d66_at, simprocAttr, h1, e_h2, h6']
   refine J.eq ret_seq ?_
   refine J.some ?_
   simp (maxSteps := 20000000) (disch := first | exact Zd | fail) only [ZZ, d66_at, simprocAttr, h1, e_h2, h6', FF, LN, NN, NT]
  ·have h6' := decide_eq_false h6
   conv => arg 1; simp (disch := first | exact Zd | fail) only [ZZ, d66_at, simprocAttr, h1, e_h2, h6']
   refine J.ite (fun h7 => ?_) (fun h7 => ?_)
   ·have h7' := decide_eq_true h7
    have h7'' : decide (x2.1 ≤ (x1.fin.length : Int)) = false := decide_eq_false (by omega)
    conv => arg 1; simp (disch := first | exact Zd | fail) only [ZZ, d66_at, simprocAttr, h1, e_h2, h6', h7'', h7']
    refine J.eq ret_seq ?_
    refine J.some ?_
    simp (maxSteps := 20000000) (disch := first | exact Zd | fail) only [ZZ, d66_at, simprocAttr, h1, e_h2, h6', h7'', h7', FF, LN, NN, NT]
   ·have h7' := decide_eq_false h7
    have h7'' : decide (x2.1 ≤ (x1.fin.length : Int)) = true := decide_eq_true (by omega)
    conv => arg 1; simp (disch := first | exact Zd | fail) only [ZZ, d66_at, simprocAttr, h1, e_h2, h6', h7'', h7']
    refine J.ite (fun h8 => ?_) (fun h8 => ?_)
    ·have h8' := decide_eq_true h8
     have h8'' : decide ((x1.fin.length : Int) ≤ x2.2.1) = false := decide_eq_false (by omega)
     conv => arg 1; simp (disch := first | exact Zd | fail) only [ZZ, d66_at, simprocAttr, h1, e_h2, h6', h7'', h7', h8'', h8']
     refine J.eq ret_seq ?_
     refine J.some ?_
     simp (maxSteps := 20000000) (disch := first | exact Zd | fail) only [ZZ, d66_at, simprocAttr, h1, e_h2, h6', h7'', h7', h8'', h8', FF, LN, NN, NT]
    ·have h8' := decide_eq_false h8
     have h8'' : decide ((x1.fin.length : Int) ≤ x2.2.1) = true := decide_eq_true (by omega)
     conv => arg 1; simp (disch := first | exact Zd | fail) only [ZZ, d66_at, simprocAttr, h1, e_h2, h6', h7'', h7', h8'', h8']
     refine J.ite (fun h9 => ?_) (fun h9 => ?_)
     ·have h9' := decide_eq_true h9
      have h9'' : decide (x2.2.2.1 ≤ x1.fouts) = false := decide_eq_false (by omega)
      conv => arg 1; simp (disch := first | exact Zd | fail) only [ZZ, d66_at, simprocAttr, h1, e_h2, h6', h7'', h7', h8'', h8', h9'', h9']
      refine J.eq ret_seq ?_
      refine J.some ?_
      simp (maxSteps := 20000000) (disch := first | exact Zd | fail) only [ZZ, d66_at, simprocAttr, h1, e_h2, h6', h7'', h7', h8'', h8', h9'', h9', FF, LN, NN, NT]
     ·have h9' := decide_eq_false h9
      have h9'' : decide (x2.2.2.1 ≤ x1.fouts) = true := decide_eq_true (by omega)
      conv => arg 1; simp (disch := first | exact Zd | fail) only [ZZ, d66_at, simprocAttr, h1, e_h2, h6', h7'', h7', h8'', h8', h9'', h9']
      refine J.eq ret_seq ?_
      conv => arg 1; simp (disch := first | exact Zd | fail) only [ZZ, d66_at, simprocAttr, h1, e_h2, h6', h7'', h7', h8'', h8', h9'', h9']
      refine J.ite (fun h10 => ?_) (fun h10 => ?_)
      ·have h10' := decide_eq_true h10
       have h10'' : decide (x1.fouts ≤ x2.2.2.2) = false := decide_eq_false (by omega)
       refine J.some ?_
       simp (maxSteps := 20000000) (disch := first | exact Zd | fail) only [ZZ, d66_at, simprocAttr, h1, e_h2, h6', h7'', h7', h8'', h8', h9'', h9', h10'', h10', FF, LN, NN, NT]
      ·have h10' := decide_eq_false h10
       have h10'' : decide (x1.fouts ≤ x2.2.2.2) = true := decide_eq_true (by omega)
       conv => arg 1; simp (disch := first | exact Zd | fail) only [ZZ, d66_at, simprocAttr, h1, e_h2, h6', h7'', h7', h8'', h8', h9'', h9', h10'', h10']
       refine J.jmp (t := ()) hj1 ?_ ?_
       ·first | rfl | (simp only [LN, NN, NT])
       ·first | (simp (disch := first | exact Zd | fail) only [RR, simprocAttr, LN, NN, NT]; done) | (simp (disch := first | exact Zd | fail) only [RR, simprocAttr, LN, fm_app, NN, NT]; done) | rfl
noncomputable def t66 (fu : Nat) : CallP := orE 86 (mkC (fun (t : Int) => ([.v (.int .i64 t)] : List AV)) (fun t => ops_Arity fu t) e86) (orE 87 (mkC (fun (t : T_infer_ask × Int) => ([.agg (c_T_infer_ask t.1), .v (.int .i64 t.2)] : List AV)) (fun t => infer_ask_has fu t.1 t.2) e87) (noP))
theorem t66_ok (fu : Nat) : CpOK Tryz.prog (t66 fu ) := orE_ok (orE_ok (noP_ok) (mkC_ok (fun t b h => ok87 fu t.1 t.2  b h))) (mkC_ok (fun t b h => ok86 fu t  b h))
theorem ok66 (fu : Nat) (x1 : T_infer_ask) (r) (h : infer_ask_complete fu x1 = some r) : PureOK Tryz.prog 66 [.agg (c_T_infer_ask x1)] (e66 r) :=
  pure_J mixed (cp := t66 fu ) (t66_ok fu  ) noI_ok i66 (w66 _ fu x1  (fun a0 r h => orE_hit (mkC_at (a := a0) (by intro a b h; first | (exact rfl) | (simp only [INJ, IJ] at h; first | exact h | (simp_all [Prod.ext_iff]) )) h)) (fun a0 a1 r h => orE_miss (by decide) (orE_hit (mkC_at (a := (a0, a1)) (by intro a b h; first | (exact rfl) | (simp only [INJ, IJ] at h; first | exact h | (simp_all [Prod.ext_iff]) )) h)))) h
/-! 111: lattice/infer.sorts -/
open Aw (d111)
def d111_at := by have h := tabL Aw.d111.eq_1; simp only [AllAt, Nat.zero_add, Nat.reduceAdd] at h; exact h
theorem i111 : finfo Tryz.prog 111 d111 = some ⟨bodyOf Tryz.f111, [.tmp 2], [9]⟩ := finfo_at Tryz.func111 rfl (by kernel_rfl) (by kernel_rfl)
def e111 : ByteArray → AV := fun r => .v (.string r)
set_option maxHeartbeats 20000000 in
theorem w111 (cp : CallP) (fu : Nat) (x1 : Int) : J (go Tryz.prog noC cp noI 0 [] d111 fu (fin Tryz.prog [.tmp 2] [9]) (bodyOf Tryz.f111) (initE 0 [.v (.int .i64 x1)]) [] []) (infer_sorts fu x1) e111 := by
 unfold infer_sorts e111
 refine J.chk fun h1 => ?_
 conv => arg 1; simp (disch := first | exact Zd | fail) only [bodyOf, Tryz.f111, ZZ, d111_at, simprocAttr, h1]
 refine J.eq go_seq ?_
 conv => arg 1; simp (disch := first | exact Zd | fail) only [ZZ, d111_at, simprocAttr, h1]
 refine J.joinS (fun (t : Unit) => ([(3, .v (.int .i64 75)), (4, .v (.bool (decide ((75 : Int) = 71))))], [])) (fun t => infer_sorts_k1 fu) ?_ (fun hj1 => ?_)
 ·rintro ⟨⟩
  show J _ (infer_sorts_k1 fu) _
  unfold infer_sorts_k1
  conv => arg 1; simp (disch := first | exact Zd | fail) only [ZZ, d111_at, simprocAttr, h1]
  refine J.joinS (fun (t : Unit) => ([(3, .v (.int .i64 75)), (4, .v (.bool (decide ((75 : Int) = 71)))), (13, .v (.bool (decide ((75 : Int) = 25))))], [])) (fun t => infer_sorts_k2 fu) ?_ (fun hj2 => ?_)
  ·rintro ⟨⟩
   show J _ (infer_sorts_k2 fu) _
   unfold infer_sorts_k2
   conv => arg 1; simp (disch := first | exact Zd | fail) only [ZZ, d111_at, simprocAttr, h1]
   refine J.joinS (fun (t : Unit) => ([(3, .v (.int .i64 75)), (4, .v (.bool (decide ((75 : Int) = 71)))), (13, .v (.bool (decide ((75 : Int) = 25)))), (18, .v (.bool (decide ((75 : Int) = 43))))], [])) (fun t => infer_sorts_k3 fu) ?_ (fun hj3 => ?_)
   ·rintro ⟨⟩
    show J _ (infer_sorts_k3 fu) _
    unfold infer_sorts_k3
    conv => arg 1; simp (disch := first | exact Zd | fail) only [ZZ, d111_at, simprocAttr, h1]
    refine J.eq go_seq ?_
    conv => arg 1; simp (disch := first | exact Zd | fail) only [ZZ, d111_at, simprocAttr, h1]
    refine J.eq ret_seq ?_
    conv => arg 1; simp (disch := first | exact Zd | fail) only [ZZ, d111_at, simprocAttr, h1]
    refine J.joinS (fun (t : Unit) => ([(3, .v (.int .i64 75)), (4, .v (.bool (decide ((75 : Int) = 71)))), (13, .v (.bool (decide ((75 : Int) = 25)))), (18, .v (.bool (decide ((75 : Int) = 43)))), (31, .v (.bool (decide ((75 : Int) = 47)))), (36, .v (.bool (decide ((75 : Int) = 64))))], [])) (fun t => infer_sorts_k4 fu) ?_ (fun hj4 => ?_)
    ·rintro ⟨⟩
     show J _ (infer_sorts_k4 fu) _
     unfold infer_sorts_k4
     conv => arg 1; simp (disch := first | exact Zd | fail) only [ZZ, d111_at, simprocAttr, h1]
     refine J.joinS (fun (t : Unit) => ([(3, .v (.int .i64 75)), (4, .v (.bool (decide ((75 : Int) = 71)))), (13, .v (.bool (decide ((75 : Int) = 25)))), (18, .v (.bool (decide ((75 : Int) = 43)))), (31, .v (.bool (decide ((75 : Int) = 47)))), (36, .v (.bool (decide ((75 : Int) = 64)))), (45, .v (.bool (decide ((75 : Int) = 51))))], [])) (fun t => infer_sorts_k5 fu) ?_ (fun hj5 => ?_)
     ·rintro ⟨⟩
      show J _ (infer_sorts_k5 fu) _
      unfold infer_sorts_k5
      conv => arg 1; simp (disch := first | exact Zd | fail) only [ZZ, d111_at, simprocAttr, h1]
      refine J.eq go_seq ?_
      conv => arg 1; simp (disch := first | exact Zd | fail) only [ZZ, d111_at, simprocAttr, h1]
      refine J.eq ret_seq ?_
      conv => arg 1; simp (disch := first | exact Zd | fail) only [ZZ, d111_at, simprocAttr, h1]
      refine J.eq ret_seq ?_
      refine J.some ?_
      simp (maxSteps := 20000000) (disch := first | exact Zd | fail) only [ZZ, d111_at, simprocAttr, h1, FF, LN, NN, NT]
     ·conv => arg 1; simp (disch := first | exact Zd | fail) only [ZZ, d111_at, simprocAttr, h1]
      refine J.jmp (t := ()) hj5 ?_ ?_
      ·first | rfl | (simp only [LN, NN, NT])
      ·first | (simp (disch := first | exact Zd | fail) only [RR, simprocAttr, LN, NN, NT]; done) | (simp (disch := first | exact Zd | fail) only [RR, simprocAttr, LN, fm_app, NN, NT]; done) | rfl
    ·conv => arg 1; simp (disch := first | exact Zd | fail) only [ZZ, d111_at, simprocAttr, h1]
     refine J.jmp (t := ()) hj4 ?_ ?_
     ·first | rfl | (simp only [LN, NN, NT])
     ·first | (simp (disch := first | exact Zd | fail) only [RR, simprocAttr, LN, NN, NT]; done) | (simp (disch := first | exact Zd | fail) only [RR, simprocAttr, LN, fm_app, NN, NT]; done) | rfl
   ·conv => arg 1; simp (disch := first | exact Zd | fail) only [ZZ, d111_at, simprocAttr, h1]
    refine J.jmp (t := ()) hj3 ?_ ?_
    ·first | rfl | (simp only [LN, NN, NT])
    ·first | (simp (disch := first | exact Zd | fail) only [RR, simprocAttr, LN, NN, NT]; done) | (simp (disch := first | exact Zd | fail) only [RR, simprocAttr, LN, fm_app, NN, NT]; done) | rfl
  ·conv => arg 1; simp (disch := first | exact Zd | fail) only [ZZ, d111_at, simprocAttr, h1]
   refine J.jmp (t := ()) hj2 ?_ ?_
   ·first | rfl | (simp only [LN, NN, NT])
   ·first | (simp (disch := first | exact Zd | fail) only [RR, simprocAttr, LN, NN, NT]; done) | (simp (disch := first | exact Zd | fail) only [RR, simprocAttr, LN, fm_app, NN, NT]; done) | rfl
 ·conv => arg 1; simp (disch := first | exact Zd | fail) only [ZZ, d111_at, simprocAttr, h1]
  refine J.jmp (t := ()) hj1 ?_ ?_
  ·first | rfl | (simp only [LN, NN, NT])
  ·first | (simp (disch := first | exact Zd | fail) only [RR, simprocAttr, LN, NN, NT]; done) | (simp (disch := first | exact Zd | fail) only [RR, simprocAttr, LN, fm_app, NN, NT]; done) | rfl
noncomputable def t111 (fu : Nat) : CallP := noP
theorem t111_ok (fu : Nat) : CpOK Tryz.prog (t111 fu ) := noP_ok
theorem ok111 (fu : Nat) (x1 : Int) (r) (h : infer_sorts fu x1 = some r) : PureOK Tryz.prog 111 [.v (.int .i64 x1)] (e111 r) :=
  pure_J mixed (cp := t111 fu ) (t111_ok fu  ) noI_ok i111 (w111 _ fu x1  ) h
/-! 112: (lattice/infer.ask).fits -/
open Aw (d112)
def d112_at := by have h := tabL Aw.d112.eq_1; simp only [AllAt, Nat.zero_add, Nat.reduceAdd] at h; exact h
theorem i112 : finfo Tryz.prog 112 d112 = some ⟨bodyOf Tryz.f112, [.tmp 6], [4]⟩ := finfo_at Tryz.func112 rfl (by kernel_rfl) (by kernel_rfl)
def e112 : Bool → AV := fun r => .v (.bool r)
set_option maxHeartbeats 20000000 in
theorem w112 (cp : CallP) (fu : Nat) (x1 : T_infer_ask) (x2 : Int) (x3 : Int) (H103_0 : ∀ (a0 : T_infer_ask) (a1 : Int) r, infer_ask_val fu a0 a1 = some r → cp 103 [.agg (c_T_infer_ask a0), .v (.int .i64 a1)] = some (.agg [.v (.int .i64 r.fType), .arr r.fDims.length (lm (ik .i64) r.fDims), .v (.bool r.fConst), .v (.int .i64 r.fT.fType), .arr r.fT.fDims.length (lm (ik .i64) r.fT.fDims), .arr r.fT.fF.length (lm (ik .u32) r.fT.fF), .arr r.fT.fI.length (lm (ik .i64) r.fT.fI), .arr r.fT.fB.length (lm (bk) r.fT.fB)])) (H80_0 : ∀ (a0 : Int) r, tens_Width fu a0 = some r → cp 80 [.v (.int .i64 a0)] = some (.v (.int .i64 r))) : J (go Tryz.prog noC cp noI 0 [] d112 fu (fin Tryz.prog [.tmp 6] [4]) (bodyOf Tryz.f112) (initE 0 [.agg (c_T_infer_ask x1), .v (.int .i64 x2), .v (.int .u8 x3)]) [] []) (infer_ask_fits fu x1 x2 x3) e112 := by
 unfold infer_ask_fits e112
 refine J.chk fun h1 => ?_
 refine J.bind fun x4 h2 => ?_
 have e_h2 := H103_0 _ _ _ h2
 try simp only [NN, NT, LN, simprocAttr, DT] at e_h2
 conv => arg 1; simp (disch := first | exact Zd | fail) only [bodyOf, Tryz.f112, ZZ, d112_at, simprocAttr, h1, e_h2]
 refine J.eq go_seq ?_
 conv => arg 1; simp (disch := first | exact Zd | fail) only [ZZ, d112_at, simprocAttr, h1, e_h2]
 refine J.ite (fun h3 => ?_) (fun h3 => ?_)
 ·have h3' := decide_eq_true h3
  conv => arg 1; simp (disch := first | exact Zd | fail) only [ZZ, d112_at, simprocAttr, h1, e_h2, h3']
  refine J.joinS (fun (t : Bool) => ([(1, .v (.int .i64 x2)), (3, .ptr (0, 3, 0) 0 0), (6, .v (.bool t)), (7, .v (.int .i64 x4.fType)), (12, .v (.int .u8 x3))], [((0, 3, 0), .bx true ([.v (.int .i64 75), .v (.int .i64 x1.fs.fAxis), .arr x1.fs.fAxes.length (lm (ik .i64) x1.fs.fAxes), .v (.bool x1.fs.fHasAxes), .v (.bool x1.fs.fKeep), .v (.bool x1.fs.fNoop), .v (.bool x1.fs.fLast), .v (.bool x1.fs.fZero), .arr x1.fs.fPerm.length (lm (ik .i64) x1.fs.fPerm), .v (.bool x1.fs.fHasPerm), .v (.int .u32 x1.fs.fAlpha), .v (.int .u32 x1.fs.fBeta), .v (.int .u32 x1.fs.fEpsilon), .v (.bool x1.fs.fLow), .v (.bool x1.fs.fHigh), .v (.bool x1.fs.fFmod), .v (.int .i64 x1.fs.fTo), .v (.int .i64 x1.fs.fMode), .v (.bool x1.fs.fTransA), .v (.bool x1.fs.fTransB), .v (.int .i64 x1.fs.fGroup), .arr x1.fs.fKernel.length (lm (ik .i64) x1.fs.fKernel), .arr x1.fs.fStrides.length (lm (ik .i64) x1.fs.fStrides), .arr x1.fs.fPads.length (lm (ik .i64) x1.fs.fPads), .arr x1.fs.fDilations.length (lm (ik .i64) x1.fs.fDilations), .v (.int .i64 x1.fs.fAuto), .v (.bool x1.fs.fCeil), .v (.bool x1.fs.fCount), .v (.int .i64 x1.fs.fBlock), .v (.int .i64 x1.fs.fStart), .v (.int .i64 x1.fs.fEnd), .v (.bool x1.fs.fHasEnd), .v (.int .i64 x1.fs.fValue.fType), .arr x1.fs.fValue.fDims.length (lm (ik .i64) x1.fs.fValue.fDims), .arr x1.fs.fValue.fF.length (lm (ik .u32) x1.fs.fValue.fF), .arr x1.fs.fValue.fI.length (lm (ik .i64) x1.fs.fValue.fI), .arr x1.fs.fValue.fB.length (lm (bk) x1.fs.fValue.fB), .arr x1.fin.length (fm c_T_Val x1.fin), .v (.int .i64 x1.fouts)]))])) (fun t => infer_ask_fits_k1 fu t) ?_ (fun hj1 => ?_)
  ·rintro x5
   show J _ (infer_ask_fits_k1 fu x5) _
   unfold infer_ask_fits_k1
   refine J.some ?_
   simp (maxSteps := 20000000) (disch := first | exact Zd | fail) only [ZZ, d112_at, simprocAttr, h1, e_h2, h3', FF, LN, NN, NT]
  ·conv => arg 1; simp (disch := first | exact Zd | fail) only [ZZ, d112_at, simprocAttr, h1, e_h2, h3']
   refine J.ite (fun h4 => ?_) (fun h4 => ?_)
   ·have h4' := decide_eq_true h4
    conv => arg 1; simp (disch := first | exact Zd | fail) only [ZZ, d112_at, simprocAttr, h1, e_h2, h3', h4']
    refine J.jmp (t := true) hj1 ?_ ?_
    ·first | rfl | (simp only [LN, NN, NT])
    ·first | (simp (disch := first | exact Zd | fail) only [RR, simprocAttr, LN, NN, NT]; done) | (simp (disch := first | exact Zd | fail) only [RR, simprocAttr, LN, fm_app, NN, NT]; done) | rfl
   ·have h4' := decide_eq_false h4
    conv => arg 1; simp (disch := first | exact Zd | fail) only [ZZ, d112_at, simprocAttr, h1, e_h2, h3', h4']
    refine J.jmp (t := decide (x4.fType = 7)) hj1 ?_ ?_
    ·first | rfl | (simp only [LN, NN, NT])
    ·first | (simp (disch := first | exact Zd | fail) only [RR, simprocAttr, LN, NN, NT]; done) | (simp (disch := first | exact Zd | fail) only [RR, simprocAttr, LN, fm_app, NN, NT]; done) | rfl
 ·have h3' := decide_eq_false h3
  conv => arg 1; simp (disch := first | exact Zd | fail) only [ZZ, d112_at, simprocAttr, h1, e_h2, h3']
  refine J.ite (fun h5 => ?_) (fun h5 => ?_)
  ·have h5' := decide_eq_true h5
   refine J.some ?_
   simp (maxSteps := 20000000) (disch := first | exact Zd | fail) only [ZZ, d112_at, simprocAttr, h1, e_h2, h3', h5', FF, LN, NN, NT]
  ·have h5' := decide_eq_false h5
   conv => arg 1; simp (disch := first | exact Zd | fail) only [ZZ, d112_at, simprocAttr, h1, e_h2, h3', h5']
   refine J.ite (fun h6 => ?_) (fun h6 => ?_)
   ·have h6' := decide_eq_true h6
    refine J.some ?_
    simp (maxSteps := 20000000) (disch := first | exact Zd | fail) only [ZZ, d112_at, simprocAttr, h1, e_h2, h3', h5', h6', FF, LN, NN, NT]
   ·have h6' := decide_eq_false h6
    conv => arg 1; simp (disch := first | exact Zd | fail) only [ZZ, d112_at, simprocAttr, h1, e_h2, h3', h5', h6']
    refine J.ite (fun h7 => ?_) (fun h7 => ?_)
    ·have h7' := decide_eq_true h7
     refine J.some ?_
     simp (maxSteps := 20000000) (disch := first | exact Zd | fail) only [ZZ, d112_at, simprocAttr, h1, e_h2, h3', h5', h6', h7', FF, LN, NN, NT]
    ·have h7' := decide_eq_false h7
     conv => arg 1; simp (disch := first | exact Zd | fail) only [ZZ, d112_at, simprocAttr, h1, e_h2, h3', h5', h6', h7']
     refine J.ite (fun h8 => ?_) (fun h8 => ?_)
     ·have h8' := decide_eq_true h8
      refine J.bind fun x6 h9 => ?_
      have e_h9 := H103_0 _ _ _ h9
      try simp only [NN, NT, LN, simprocAttr, DT] at e_h9
      refine J.some ?_
      simp (maxSteps := 20000000) (disch := first | exact Zd | fail) only [ZZ, d112_at, simprocAttr, h1, e_h2, h3', h5', h6', h7', h8', e_h9, FF, LN, NN, NT]
     ·have h8' := decide_eq_false h8
      conv => arg 1; simp (disch := first | exact Zd | fail) only [ZZ, d112_at, simprocAttr, h1, e_h2, h3', h5', h6', h7', h8']
      refine J.ite (fun h10 => ?_) (fun h10 => ?_)
      ·have h10' := decide_eq_true h10
       refine J.bind fun x7 h11 => ?_
       have e_h11 := H103_0 _ _ _ h11
       try simp only [NN, NT, LN, simprocAttr, DT] at e_h11
       refine J.some ?_
       simp (maxSteps := 20000000) (disch := first | exact Zd | fail) only [ZZ, d112_at, simprocAttr, h1, e_h2, h3', h5', h6', h7', h8', h10', e_h11, FF, LN, NN, NT]
      ·have h10' := decide_eq_false h10
       conv => arg 1; simp (disch := first | exact Zd | fail) only [ZZ, d112_at, simprocAttr, h1, e_h2, h3', h5', h6', h7', h8', h10']
       refine J.eq ret_seq ?_
       refine J.bind fun x8 h12 => ?_
       have e_h12 := H80_0 _ _ h12
       try simp only [NN, NT, LN, simprocAttr, DT] at e_h12
       refine J.some ?_
       simp (maxSteps := 20000000) (disch := first | exact Zd | fail) only [ZZ, d112_at, simprocAttr, h1, e_h2, h3', h5', h6', h7', h8', h10', e_h12, FF, LN, NN, NT]
noncomputable def t112 (fu : Nat) : CallP := orE 103 (mkC (fun (t : T_infer_ask × Int) => ([.agg (c_T_infer_ask t.1), .v (.int .i64 t.2)] : List AV)) (fun t => infer_ask_val fu t.1 t.2) e103) (orE 80 (mkC (fun (t : Int) => ([.v (.int .i64 t)] : List AV)) (fun t => tens_Width fu t) e80) (noP))
theorem t112_ok (fu : Nat) : CpOK Tryz.prog (t112 fu ) := orE_ok (orE_ok (noP_ok) (mkC_ok (fun t b h => ok80 fu t  b h))) (mkC_ok (fun t b h => ok103 fu t.1 t.2  b h))
theorem ok112 (fu : Nat) (x1 : T_infer_ask) (x2 : Int) (x3 : Int) (r) (h : infer_ask_fits fu x1 x2 x3 = some r) : PureOK Tryz.prog 112 [.agg (c_T_infer_ask x1), .v (.int .i64 x2), .v (.int .u8 x3)] (e112 r) :=
  pure_J mixed (cp := t112 fu ) (t112_ok fu  ) noI_ok i112 (w112 _ fu x1 x2 x3  (fun a0 a1 r h => orE_hit (mkC_at (a := (a0, a1)) (by intro a b h; first | (exact rfl) | (simp only [INJ, IJ] at h; first | exact h | (simp_all [Prod.ext_iff]) )) h)) (fun a0 r h => orE_miss (by decide) (orE_hit (mkC_at (a := a0) (by intro a b h; first | (exact rfl) | (simp only [INJ, IJ] at h; first | exact h | (simp_all [Prod.ext_iff]) )) h)))) h
/-! 88: (lattice/infer.ask).typed -/
open Aw (d88)
def d88_at := by have h := tabL Aw.d88.eq_1; simp only [AllAt, Nat.zero_add, Nat.reduceAdd] at h; exact h
theorem i88 : finfo Tryz.prog 88 d88 = some ⟨bodyOf Tryz.f88, [.tmp 2], [4]⟩ := finfo_at Tryz.func88 rfl (by kernel_rfl) (by kernel_rfl)
def e88 : Bool → AV := fun r => .v (.bool r)
set_option maxHeartbeats 20000000 in
theorem w88 (cp : CallP) (fu : Nat) (x1 : T_infer_ask) (H111_0 : ∀ (a0 : Int) r, infer_sorts fu a0 = some r → cp 111 [.v (.int .i64 a0)] = some (.v (.string r))) (H87_0 : ∀ (a0 : T_infer_ask) (a1 : Int) r, infer_ask_has fu a0 a1 = some r → cp 87 [.agg (c_T_infer_ask a0), .v (.int .i64 a1)] = some (.v (.bool r))) (H103_0 : ∀ (a0 : T_infer_ask) (a1 : Int) r, infer_ask_val fu a0 a1 = some r → cp 103 [.agg (c_T_infer_ask a0), .v (.int .i64 a1)] = some (.agg [.v (.int .i64 r.fType), .arr r.fDims.length (lm (ik .i64) r.fDims), .v (.bool r.fConst), .v (.int .i64 r.fT.fType), .arr r.fT.fDims.length (lm (ik .i64) r.fT.fDims), .arr r.fT.fF.length (lm (ik .u32) r.fT.fF), .arr r.fT.fI.length (lm (ik .i64) r.fT.fI), .arr r.fT.fB.length (lm (bk) r.fT.fB)])) (H80_0 : ∀ (a0 : Int) r, tens_Width fu a0 = some r → cp 80 [.v (.int .i64 a0)] = some (.v (.int .i64 r))) (H112_0 : ∀ (a0 : T_infer_ask) (a1 : Int) (a2 : Int) r, infer_ask_fits fu a0 a1 a2 = some r → cp 112 [.agg (c_T_infer_ask a0), .v (.int .i64 a1), .v (.int .u8 a2)] = some (.v (.bool r))) : J (go Tryz.prog noC cp noI 0 [] d88 fu (fin Tryz.prog [.tmp 2] [4]) (bodyOf Tryz.f88) (initE 0 [.agg (c_T_infer_ask x1)]) [] []) (infer_ask_typed fu x1) e88 := by
 unfold infer_ask_typed e88
 refine J.chk fun h1 => ?_
 refine J.bind fun x2 h2 => ?_
 have e_h2 := H111_0 _ _ h2
 try simp only [NN, NT, LN, simprocAttr, DT] at e_h2
 conv => arg 1; simp (disch := first | exact Zd | fail) only [bodyOf, Tryz.f88, ZZ, d88_at, simprocAttr, h1, e_h2]
 refine J.joinS (fun (t : Unit) => ([(1, .ptr (0, 1, 0) 0 0)], [((0, 1, 0), .bx true ([.v (.int .i64 75), .v (.int .i64 x1.fs.fAxis), .arr x1.fs.fAxes.length (lm (ik .i64) x1.fs.fAxes), .v (.bool x1.fs.fHasAxes), .v (.bool x1.fs.fKeep), .v (.bool x1.fs.fNoop), .v (.bool x1.fs.fLast), .v (.bool x1.fs.fZero), .arr x1.fs.fPerm.length (lm (ik .i64) x1.fs.fPerm), .v (.bool x1.fs.fHasPerm), .v (.int .u32 x1.fs.fAlpha), .v (.int .u32 x1.fs.fBeta), .v (.int .u32 x1.fs.fEpsilon), .v (.bool x1.fs.fLow), .v (.bool x1.fs.fHigh), .v (.bool x1.fs.fFmod), .v (.int .i64 x1.fs.fTo), .v (.int .i64 x1.fs.fMode), .v (.bool x1.fs.fTransA), .v (.bool x1.fs.fTransB), .v (.int .i64 x1.fs.fGroup), .arr x1.fs.fKernel.length (lm (ik .i64) x1.fs.fKernel), .arr x1.fs.fStrides.length (lm (ik .i64) x1.fs.fStrides), .arr x1.fs.fPads.length (lm (ik .i64) x1.fs.fPads), .arr x1.fs.fDilations.length (lm (ik .i64) x1.fs.fDilations), .v (.int .i64 x1.fs.fAuto), .v (.bool x1.fs.fCeil), .v (.bool x1.fs.fCount), .v (.int .i64 x1.fs.fBlock), .v (.int .i64 x1.fs.fStart), .v (.int .i64 x1.fs.fEnd), .v (.bool x1.fs.fHasEnd), .v (.int .i64 x1.fs.fValue.fType), .arr x1.fs.fValue.fDims.length (lm (ik .i64) x1.fs.fValue.fDims), .arr x1.fs.fValue.fF.length (lm (ik .u32) x1.fs.fValue.fF), .arr x1.fs.fValue.fI.length (lm (ik .i64) x1.fs.fValue.fI), .arr x1.fs.fValue.fB.length (lm (bk) x1.fs.fValue.fB), .arr x1.fin.length (fm c_T_Val x1.fin), .v (.int .i64 x1.fouts)]))])) (fun t => infer_ask_typed_k1 fu) ?_ (fun hj1 => ?_)
 ·rintro ⟨⟩
  show J _ (infer_ask_typed_k1 fu) _
  unfold infer_ask_typed_k1
  refine J.eq go_seq ?_
  conv => arg 1; simp (disch := first | exact Zd | fail) only [ZZ, d88_at, simprocAttr, h1, e_h2]
  refine J.eq ret_seq ?_
  refine J.some ?_
  simp (maxSteps := 20000000) (disch := first | exact Zd | fail) only [ZZ, d88_at, simprocAttr, h1, e_h2, FF, LN, NN, NT]
 ·conv => arg 1; simp (disch := first | exact Zd | fail) only [ZZ, d88_at, simprocAttr, h1, e_h2]
  unfold infer_ask_typed_W1
  refine J.loop (fun (s : Int) => ([(1, .ptr (0, 1, 0) 0 0), (3, .v (.string x2)), (10, .v (.int .i64 (x1.fin.length : Int))), (11, .v (.int .i64 s))], [((0, 1, 0), .bx true ([.v (.int .i64 75), .v (.int .i64 x1.fs.fAxis), .arr x1.fs.fAxes.length (lm (ik .i64) x1.fs.fAxes), .v (.bool x1.fs.fHasAxes), .v (.bool x1.fs.fKeep), .v (.bool x1.fs.fNoop), .v (.bool x1.fs.fLast), .v (.bool x1.fs.fZero), .arr x1.fs.fPerm.length (lm (ik .i64) x1.fs.fPerm), .v (.bool x1.fs.fHasPerm), .v (.int .u32 x1.fs.fAlpha), .v (.int .u32 x1.fs.fBeta), .v (.int .u32 x1.fs.fEpsilon), .v (.bool x1.fs.fLow), .v (.bool x1.fs.fHigh), .v (.bool x1.fs.fFmod), .v (.int .i64 x1.fs.fTo), .v (.int .i64 x1.fs.fMode), .v (.bool x1.fs.fTransA), .v (.bool x1.fs.fTransB), .v (.int .i64 x1.fs.fGroup), .arr x1.fs.fKernel.length (lm (ik .i64) x1.fs.fKernel), .arr x1.fs.fStrides.length (lm (ik .i64) x1.fs.fStrides), .arr x1.fs.fPads.length (lm (ik .i64) x1.fs.fPads), .arr x1.fs.fDilations.length (lm (ik .i64) x1.fs.fDilations), .v (.int .i64 x1.fs.fAuto), .v (.bool x1.fs.fCeil), .v (.bool x1.fs.fCount), .v (.int .i64 x1.fs.fBlock), .v (.int .i64 x1.fs.fStart), .v (.int .i64 x1.fs.fEnd), .v (.bool x1.fs.fHasEnd), .v (.int .i64 x1.fs.fValue.fType), .arr x1.fs.fValue.fDims.length (lm (ik .i64) x1.fs.fValue.fDims), .arr x1.fs.fValue.fF.length (lm (ik .u32) x1.fs.fValue.fF), .arr x1.fs.fValue.fI.length (lm (ik .i64) x1.fs.fValue.fI), .arr x1.fs.fValue.fB.length (lm (bk) x1.fs.fValue.fB), .arr x1.fin.length (fm c_T_Val x1.fin), .v (.int .i64 x1.fouts)]))])) (fun next s => infer_ask_typed_L1 fu x1 x2 next s) (s0 := 0) ?_ ?_ ?_
  ·first | rfl | (simp only [LN, NN, NT])
  ·first | (simp (disch := first | exact Zd | fail) only [RR, simprocAttr, LN, NN, NT]; done) | (simp (disch := first | exact Zd | fail) only [RR, simprocAttr, LN, fm_app, NN, NT]; done) | rfl
  rintro nx1 k1 hn1 x8
  show J _ (infer_ask_typed_L1 fu x1 x2 nx1 x8) _
  unfold infer_ask_typed_L1
  conv => arg 1; simp (disch := first | exact Zd | fail) only [ZZ, d88_at, simprocAttr, h1, e_h2]
  refine J.eq go_seq ?_
  conv => arg 1; simp (disch := first | exact Zd | fail) only [ZZ, d88_at, simprocAttr, h1, e_h2]
  refine J.ite (fun h3 => ?_) (fun h3 => ?_)
  ·have h3' := decide_eq_true h3
   have h3'' : decide ((x1.fin.length : Int) ≤ x8) = false := decide_eq_false (by omega)
   conv => arg 1; simp (disch := first | exact Zd | fail) only [ZZ, d88_at, simprocAttr, h1, e_h2, h3'', h3']
   refine J.eq ret_seq ?_
   refine J.eq go_seq ?_
   conv => arg 1; simp (disch := first | exact Zd | fail) only [ZZ, d88_at, simprocAttr, h1, e_h2, h3'', h3']
   refine J.eq go_seq ?_
   refine J.bind fun x14 h4 => ?_
   have e_h4 := H87_0 _ _ _ h4
   try simp only [NN, NT, LN, simprocAttr, DT] at e_h4
   conv => arg 1; simp (disch := first | exact Zd | fail) only [ZZ, d88_at, simprocAttr, h1, e_h2, h3'', h3', e_h4]
   refine J.ite (fun h5 => ?_) (fun h5 => ?_)
   ·have h5' : x14 = true := h5
    refine J.bind fun x15 h6 => ?_
    have e_h6 := H103_0 _ _ _ h6
    try simp only [NN, NT, LN, simprocAttr, DT] at e_h6
    refine J.bind fun x16 h7 => ?_
    have e_h7 := H80_0 _ _ h7
    try simp only [NN, NT, LN, simprocAttr, DT] at e_h7
    conv => arg 1; simp (disch := first | exact Zd | fail) only [ZZ, d88_at, simprocAttr, h1, e_h2, h3'', h3', e_h4, h5', e_h6, e_h7]
    refine J.ite (fun h8 => ?_) (fun h8 => ?_)
    ·have h8' := decide_eq_true h8
     conv => arg 1; simp (disch := first | exact Zd | fail) only [ZZ, d88_at, simprocAttr, h1, e_h2, h3'', h3', e_h4, h5', e_h6, e_h7, h8']
     refine J.eq ret_seq ?_
     refine J.some ?_
     simp (maxSteps := 20000000) (disch := first | exact Zd | fail) only [ZZ, d88_at, simprocAttr, h1, e_h2, h3'', h3', e_h4, h5', e_h6, e_h7, h8', FF, LN, NN, NT]
    ·have h8' := decide_eq_false h8
     refine J.sat fun x17 h9 => ?_
     refine J.bind fun x18 h10 => ?_
     have e_h10 := H112_0 _ _ _ _ h10
     try simp only [NN, NT, LN, simprocAttr, DT] at e_h10
     conv => arg 1; simp (disch := first | exact Zd | fail) only [ZZ, d88_at, simprocAttr, h1, e_h2, h3'', h3', e_h4, h5', e_h6, e_h7, h8', h9, e_h10]
     refine J.eq ret_seq ?_
     conv => arg 1; simp (disch := first | exact Zd | fail) only [ZZ, d88_at, simprocAttr, h1, e_h2, h3'', h3', e_h4, h5', e_h6, e_h7, h8', h9, e_h10]
     refine J.ite (fun h11 => ?_) (fun h11 => ?_)
     ·have h11' : x18 = true := h11
      conv => arg 1; simp (disch := first | exact Zd | fail) only [ZZ, d88_at, simprocAttr, h1, e_h2, h3'', h3', e_h4, h5', e_h6, e_h7, h8', h9, e_h10, h11']
      refine J.eq ret_seq ?_
      conv => arg 1; simp (disch := first | exact Zd | fail) only [ZZ, d88_at, simprocAttr, h1, e_h2, h3'', h3', e_h4, h5', e_h6, e_h7, h8', h9, e_h10, h11']
      refine J.next (s := wk .i64 (x8 + 1)) hn1 ?_ ?_
      ·first | rfl | (simp only [LN, NN, NT])
      ·first | (simp (disch := first | exact Zd | fail) only [RR, simprocAttr, LN, NN, NT]; done) | (simp (disch := first | exact Zd | fail) only [RR, simprocAttr, LN, fm_app, NN, NT]; done) | rfl
     ·have h11' : x18 = false := Bool.eq_false_iff.2 h11
      refine J.some ?_
      simp (maxSteps := 20000000) (disch := first | exact Zd | fail) only [ZZ, d88_at, simprocAttr, h1, e_h2, h3'', h3', e_h4, h5', e_h6, e_h7, h8', h9, e_h10, h11', FF, LN, NN, NT]
   ·have h5' : x14 = false := Bool.eq_false_iff.2 h5
    conv => arg 1; simp (disch := first | exact Zd | fail) only [ZZ, d88_at, simprocAttr, h1, e_h2, h3'', h3', e_h4, h5']
    refine J.eq ret_seq ?_
    conv => arg 1; simp (disch := first | exact Zd | fail) only [ZZ, d88_at, simprocAttr, h1, e_h2, h3'', h3', e_h4, h5']
    refine J.eq ret_seq ?_
    conv => arg 1; simp (disch := first | exact Zd | fail) only [ZZ, d88_at, simprocAttr, h1, e_h2, h3'', h3', e_h4, h5']
    refine J.next (s := wk .i64 (x8 + 1)) hn1 ?_ ?_
    ·first | rfl | (simp only [LN, NN, NT])
    ·first | (simp (disch := first | exact Zd | fail) only [RR, simprocAttr, LN, NN, NT]; done) | (simp (disch := first | exact Zd | fail) only [RR, simprocAttr, LN, fm_app, NN, NT]; done) | rfl
  ·have h3' := decide_eq_false h3
   have h3'' : decide ((x1.fin.length : Int) ≤ x8) = true := decide_eq_true (by omega)
   conv => arg 1; simp (disch := first | exact Zd | fail) only [ZZ, d88_at, simprocAttr, h1, e_h2, h3'', h3']
   refine J.jmp (t := ()) hj1 ?_ ?_
   ·first | rfl | (simp only [LN, NN, NT])
   ·first | (simp (disch := first | exact Zd | fail) only [RR, simprocAttr, LN, NN, NT]; done) | (simp (disch := first | exact Zd | fail) only [RR, simprocAttr, LN, fm_app, NN, NT]; done) | rfl
noncomputable def t88 (fu : Nat) : CallP := orE 111 (mkC (fun (t : Int) => ([.v (.int .i64 t)] : List AV)) (fun t => infer_sorts fu t) e111) (orE 87 (mkC (fun (t : T_infer_ask × Int) => ([.agg (c_T_infer_ask t.1), .v (.int .i64 t.2)] : List AV)) (fun t => infer_ask_has fu t.1 t.2) e87) (orE 103 (mkC (fun (t : T_infer_ask × Int) => ([.agg (c_T_infer_ask t.1), .v (.int .i64 t.2)] : List AV)) (fun t => infer_ask_val fu t.1 t.2) e103) (orE 80 (mkC (fun (t : Int) => ([.v (.int .i64 t)] : List AV)) (fun t => tens_Width fu t) e80) (orE 112 (mkC (fun (t : T_infer_ask × Int × Int) => ([.agg (c_T_infer_ask t.1), .v (.int .i64 t.2.1), .v (.int .u8 t.2.2)] : List AV)) (fun t => infer_ask_fits fu t.1 t.2.1 t.2.2) e112) (noP)))))
theorem t88_ok (fu : Nat) : CpOK Tryz.prog (t88 fu ) := orE_ok (orE_ok (orE_ok (orE_ok (orE_ok (noP_ok) (mkC_ok (fun t b h => ok112 fu t.1 t.2.1 t.2.2  b h))) (mkC_ok (fun t b h => ok80 fu t  b h))) (mkC_ok (fun t b h => ok103 fu t.1 t.2  b h))) (mkC_ok (fun t b h => ok87 fu t.1 t.2  b h))) (mkC_ok (fun t b h => ok111 fu t  b h))
theorem ok88 (fu : Nat) (x1 : T_infer_ask) (r) (h : infer_ask_typed fu x1 = some r) : PureOK Tryz.prog 88 [.agg (c_T_infer_ask x1)] (e88 r) :=
  pure_J mixed (cp := t88 fu ) (t88_ok fu  ) noI_ok i88 (w88 _ fu x1  (fun a0 r h => orE_hit (mkC_at (a := a0) (by intro a b h; first | (exact rfl) | (simp only [INJ, IJ] at h; first | exact h | (simp_all [Prod.ext_iff]) )) h)) (fun a0 a1 r h => orE_miss (by decide) (orE_hit (mkC_at (a := (a0, a1)) (by intro a b h; first | (exact rfl) | (simp only [INJ, IJ] at h; first | exact h | (simp_all [Prod.ext_iff]) )) h))) (fun a0 a1 r h => orE_miss (by decide) (orE_miss (by decide) (orE_hit (mkC_at (a := (a0, a1)) (by intro a b h; first | (exact rfl) | (simp only [INJ, IJ] at h; first | exact h | (simp_all [Prod.ext_iff]) )) h)))) (fun a0 r h => orE_miss (by decide) (orE_miss (by decide) (orE_miss (by decide) (orE_hit (mkC_at (a := a0) (by intro a b h; first | (exact rfl) | (simp only [INJ, IJ] at h; first | exact h | (simp_all [Prod.ext_iff]) )) h))))) (fun a0 a1 a2 r h => orE_miss (by decide) (orE_miss (by decide) (orE_miss (by decide) (orE_miss (by decide) (orE_hit (mkC_at (a := (a0, a1, a2)) (by intro a b h; first | (exact rfl) | (simp only [INJ, IJ] at h; first | exact h | (simp_all [Prod.ext_iff]) )) h))))))) h
/-! 91: (lattice/infer.ask).dims -/
open Aw (d91)
def d91_at := by have h := tabL Aw.d91.eq_1; simp only [AllAt, Nat.zero_add, Nat.reduceAdd] at h; exact h
theorem i91 : finfo Tryz.prog 91 d91 = some ⟨bodyOf Tryz.f91, [.tmp 4], [22]⟩ := finfo_at Tryz.func91 rfl (by kernel_rfl) (by kernel_rfl)
def e91 : (List Int) → AV := fun r => .arr r.length (lm (ik .i64) r)
set_option maxHeartbeats 20000000 in
theorem w91 (cp : CallP) (fu : Nat) (x1 : T_infer_ask) (x2 : Int) (H103_0 : ∀ (a0 : T_infer_ask) (a1 : Int) r, infer_ask_val fu a0 a1 = some r → cp 103 [.agg (c_T_infer_ask a0), .v (.int .i64 a1)] = some (.agg [.v (.int .i64 r.fType), .arr r.fDims.length (lm (ik .i64) r.fDims), .v (.bool r.fConst), .v (.int .i64 r.fT.fType), .arr r.fT.fDims.length (lm (ik .i64) r.fT.fDims), .arr r.fT.fF.length (lm (ik .u32) r.fT.fF), .arr r.fT.fI.length (lm (ik .i64) r.fT.fI), .arr r.fT.fB.length (lm (bk) r.fT.fB)])) : J (go Tryz.prog noC cp noI 0 [] d91 fu (fin Tryz.prog [.tmp 4] [22]) (bodyOf Tryz.f91) (initE 0 [.agg (c_T_infer_ask x1), .v (.int .i64 x2)]) [] []) (infer_ask_dims fu x1 x2) e91 := by
 unfold infer_ask_dims e91
 refine J.chk fun h1 => ?_
 refine J.bind fun x3 h2 => ?_
 have e_h2 := H103_0 _ _ _ h2
 try simp only [NN, NT, LN, simprocAttr, DT] at e_h2
 refine J.some ?_
 simp (maxSteps := 20000000) (disch := first | exact Zd | fail) only [bodyOf, Tryz.f91, ZZ, d91_at, simprocAttr, h1, e_h2, FF, LN, NN, NT]
noncomputable def t91 (fu : Nat) : CallP := orE 103 (mkC (fun (t : T_infer_ask × Int) => ([.agg (c_T_infer_ask t.1), .v (.int .i64 t.2)] : List AV)) (fun t => infer_ask_val fu t.1 t.2) e103) (noP)
theorem t91_ok (fu : Nat) : CpOK Tryz.prog (t91 fu ) := orE_ok (noP_ok) (mkC_ok (fun t b h => ok103 fu t.1 t.2  b h))
theorem ok91 (fu : Nat) (x1 : T_infer_ask) (x2 : Int) (r) (h : infer_ask_dims fu x1 x2 = some r) : PureOK Tryz.prog 91 [.agg (c_T_infer_ask x1), .v (.int .i64 x2)] (e91 r) :=
  pure_J mixed (cp := t91 fu ) (t91_ok fu  ) noI_ok i91 (w91 _ fu x1 x2  (fun a0 a1 r h => orE_hit (mkC_at (a := (a0, a1)) (by intro a b h; first | (exact rfl) | (simp only [INJ, IJ] at h; first | exact h | (simp_all [Prod.ext_iff]) )) h))) h
/-! 113: (lattice/infer.ask).rank -/
open Aw (d113)
def d113_at := by have h := tabL Aw.d113.eq_1; simp only [AllAt, Nat.zero_add, Nat.reduceAdd] at h; exact h
theorem i113 : finfo Tryz.prog 113 d113 = some ⟨bodyOf Tryz.f113, [.tmp 2], [3]⟩ := finfo_at Tryz.func113 rfl (by kernel_rfl) (by kernel_rfl)
def e113 : Int → AV := fun r => .v (.int .i64 r)
set_option maxHeartbeats 20000000 in
theorem w113 (cp : CallP) (fu : Nat) (x1 : T_infer_ask) (H91_0 : ∀ (a0 : T_infer_ask) (a1 : Int) r, infer_ask_dims fu a0 a1 = some r → cp 91 [.agg (c_T_infer_ask a0), .v (.int .i64 a1)] = some (.arr r.length (lm (ik .i64) r))) : J (go Tryz.prog noC cp noI 0 [] d113 fu (fin Tryz.prog [.tmp 2] [3]) (bodyOf Tryz.f113) (initE 0 [.agg (c_T_infer_ask x1)]) [] []) (infer_ask_rank fu x1) e113 := by
 unfold infer_ask_rank e113
 refine J.chk fun h1 => ?_
 refine J.bind fun x2 h2 => ?_
 have e_h2 := H91_0 _ _ _ h2
 try simp only [NN, NT, LN, simprocAttr, DT] at e_h2
 refine J.some ?_
 simp (maxSteps := 20000000) (disch := first | exact Zd | fail) only [bodyOf, Tryz.f113, ZZ, d113_at, simprocAttr, h1, e_h2, FF, LN, NN, NT]
noncomputable def t113 (fu : Nat) : CallP := orE 91 (mkC (fun (t : T_infer_ask × Int) => ([.agg (c_T_infer_ask t.1), .v (.int .i64 t.2)] : List AV)) (fun t => infer_ask_dims fu t.1 t.2) e91) (noP)
theorem t113_ok (fu : Nat) : CpOK Tryz.prog (t113 fu ) := orE_ok (noP_ok) (mkC_ok (fun t b h => ok91 fu t.1 t.2  b h))
theorem ok113 (fu : Nat) (x1 : T_infer_ask) (r) (h : infer_ask_rank fu x1 = some r) : PureOK Tryz.prog 113 [.agg (c_T_infer_ask x1)] (e113 r) :=
  pure_J mixed (cp := t113 fu ) (t113_ok fu  ) noI_ok i113 (w113 _ fu x1  (fun a0 a1 r h => orE_hit (mkC_at (a := (a0, a1)) (by intro a b h; first | (exact rfl) | (simp only [INJ, IJ] at h; first | exact h | (simp_all [Prod.ext_iff]) )) h))) h
/-! 117: lattice/infer.many -/
open Aw (d117)
def d117_at := by have h := tabL Aw.d117.eq_1; simp only [AllAt, Nat.zero_add, Nat.reduceAdd] at h; exact h
theorem i117 : finfo Tryz.prog 117 d117 = some ⟨bodyOf Tryz.f117, [.tmp 4], [4]⟩ := finfo_at Tryz.func117 rfl (by kernel_rfl) (by kernel_rfl)
def e117 : Bool → AV := fun r => .v (.bool r)
set_option maxHeartbeats 20000000 in
theorem w117 (cp : CallP) (fu : Nat) (x1 : List Int) (x2 : Int) : J (go Tryz.prog noC cp noI 0 [] d117 fu (fin Tryz.prog [.tmp 4] [4]) (bodyOf Tryz.f117) (initE 0 [.arr x1.length (lm (ik .i64) x1), .v (.int .i64 x2)]) [] []) (infer_many fu x1 x2) e117 := by
 unfold infer_many e117
 conv => arg 1; simp (disch := first | exact Zd | fail) only [bodyOf, Tryz.f117, ZZ, d117_at, simprocAttr]
 refine J.eq go_seq ?_
 conv => arg 1; simp (disch := first | exact Zd | fail) only [ZZ, d117_at, simprocAttr]
 refine J.ite (fun h1 => ?_) (fun h1 => ?_)
 ·have h1' := decide_eq_true h1
  conv => arg 1; simp (disch := first | exact Zd | fail) only [ZZ, d117_at, simprocAttr, h1']
  refine J.eq ret_seq ?_
  refine J.some ?_
  simp (maxSteps := 20000000) (disch := first | exact Zd | fail) only [ZZ, d117_at, simprocAttr, h1', FF, LN, NN, NT]
 ·have h1' := decide_eq_false h1
  conv => arg 1; simp (disch := first | exact Zd | fail) only [ZZ, d117_at, simprocAttr, h1']
  refine J.eq ret_seq ?_
  refine J.some ?_
  simp (maxSteps := 20000000) (disch := first | exact Zd | fail) only [ZZ, d117_at, simprocAttr, h1', FF, LN, NN, NT]
noncomputable def t117 (fu : Nat) : CallP := noP
theorem t117_ok (fu : Nat) : CpOK Tryz.prog (t117 fu ) := noP_ok
theorem ok117 (fu : Nat) (x1 : List Int) (x2 : Int) (r) (h : infer_many fu x1 x2 = some r) : PureOK Tryz.prog 117 [.arr x1.length (lm (ik .i64) x1), .v (.int .i64 x2)] (e117 r) :=
  pure_J mixed (cp := t117 fu ) (t117_ok fu  ) noI_ok i117 (w117 _ fu x1 x2  ) h
/-! 118: (lattice/infer.ask).frames -/
open Aw (d118)
def d118_at := by have h := tabL Aw.d118.eq_1; simp only [AllAt, Nat.zero_add, Nat.reduceAdd] at h; exact h
theorem i118 : finfo Tryz.prog 118 d118 = some ⟨bodyOf Tryz.f118, [.tmp 2], [4]⟩ := finfo_at Tryz.func118 rfl (by kernel_rfl) (by kernel_rfl)
def e118 : Bool → AV := fun r => .v (.bool r)
set_option maxHeartbeats 20000000 in
theorem w118 (cp : CallP) (fu : Nat) (x1 : T_infer_ask) (H117_0 : ∀ (a0 : List Int) (a1 : Int) r, infer_many fu a0 a1 = some r → cp 117 [.arr a0.length (lm (ik .i64) a0), .v (.int .i64 a1)] = some (.v (.bool r))) : J (go Tryz.prog noC cp noI 0 [] d118 fu (fin Tryz.prog [.tmp 2] [4]) (bodyOf Tryz.f118) (initE 0 [.agg (c_T_infer_ask x1)]) [] []) (infer_ask_frames fu x1) e118 := by
 unfold infer_ask_frames e118
 refine J.chk fun h1 => ?_
 conv => arg 1; simp (disch := first | exact Zd | fail) only [bodyOf, Tryz.f118, ZZ, d118_at, simprocAttr, h1]
 refine J.eq go_seq ?_
 refine J.bind fun x2 h2 => ?_
 have e_h2 := H117_0 _ _ _ h2
 try simp only [NN, NT, LN, simprocAttr, DT] at e_h2
 conv => arg 1; simp (disch := first | exact Zd | fail) only [ZZ, d118_at, simprocAttr, h1, e_h2]
 refine J.ite (fun h3 => ?_) (fun h3 => ?_)
 ·have h3' : x2 = true := h3
  refine J.bind fun x3 h4 => ?_
  have e_h4 := H117_0 _ _ _ h4
  try simp only [NN, NT, LN, simprocAttr, DT] at e_h4
  conv => arg 1; simp (disch := first | exact Zd | fail) only [ZZ, d118_at, simprocAttr, h1, e_h2, h3', e_h4]
  refine J.ite (fun h5 => ?_) (fun h5 => ?_)
  ·have h5' : x3 = true := h5
   refine J.bind fun x4 h6 => ?_
   have e_h6 := H117_0 _ _ _ h6
   try simp only [NN, NT, LN, simprocAttr, DT] at e_h6
   conv => arg 1; simp (disch := first | exact Zd | fail) only [ZZ, d118_at, simprocAttr, h1, e_h2, h3', e_h4, h5', e_h6]
   refine J.eq ret_seq ?_
   refine J.some ?_
   simp (maxSteps := 20000000) (disch := first | exact Zd | fail) only [ZZ, d118_at, simprocAttr, h1, e_h2, h3', e_h4, h5', e_h6, FF, LN, NN, NT]
  ·have h5' : x3 = false := Bool.eq_false_iff.2 h5
   conv => arg 1; simp (disch := first | exact Zd | fail) only [ZZ, d118_at, simprocAttr, h1, e_h2, h3', e_h4, h5']
   refine J.eq ret_seq ?_
   refine J.some ?_
   simp (maxSteps := 20000000) (disch := first | exact Zd | fail) only [ZZ, d118_at, simprocAttr, h1, e_h2, h3', e_h4, h5', FF, LN, NN, NT]
 ·have h3' : x2 = false := Bool.eq_false_iff.2 h3
  conv => arg 1; simp (disch := first | exact Zd | fail) only [ZZ, d118_at, simprocAttr, h1, e_h2, h3']
  refine J.eq ret_seq ?_
  refine J.some ?_
  simp (maxSteps := 20000000) (disch := first | exact Zd | fail) only [ZZ, d118_at, simprocAttr, h1, e_h2, h3', FF, LN, NN, NT]
noncomputable def t118 (fu : Nat) : CallP := orE 117 (mkC (fun (t : (List Int) × Int) => ([.arr t.1.length (lm (ik .i64) t.1), .v (.int .i64 t.2)] : List AV)) (fun t => infer_many fu t.1 t.2) e117) (noP)
theorem t118_ok (fu : Nat) : CpOK Tryz.prog (t118 fu ) := orE_ok (noP_ok) (mkC_ok (fun t b h => ok117 fu t.1 t.2  b h))
theorem ok118 (fu : Nat) (x1 : T_infer_ask) (r) (h : infer_ask_frames fu x1 = some r) : PureOK Tryz.prog 118 [.agg (c_T_infer_ask x1)] (e118 r) :=
  pure_J mixed (cp := t118 fu ) (t118_ok fu  ) noI_ok i118 (w118 _ fu x1  (fun a0 a1 r h => orE_hit (mkC_at (a := (a0, a1)) (by intro a b h; first | (exact rfl) | (simp only [INJ, IJ] at h; first | exact h | (simp_all [Prod.ext_iff]) )) h))) h
/-! 89: (lattice/infer.ask).attributes -/
open Aw (d89)
def d89_at := by have h := tabL Aw.d89.eq_1; simp only [AllAt, Nat.zero_add, Nat.reduceAdd] at h; exact h
theorem i89 : finfo Tryz.prog 89 d89 = some ⟨bodyOf Tryz.f89, [.tmp 2], [4]⟩ := finfo_at Tryz.func89 rfl (by kernel_rfl) (by kernel_rfl)
def e89 : Bool → AV := fun r => .v (.bool r)
set_option maxHeartbeats 20000000 in
theorem w89 (cp : CallP) (fu : Nat) (x1 : T_infer_ask) (H113_0 : ∀ (a0 : T_infer_ask) r, infer_ask_rank fu a0 = some r → cp 113 [.agg (c_T_infer_ask a0)] = some (.v (.int .i64 r))) (H117_0 : ∀ (a0 : List Int) (a1 : Int) r, infer_many fu a0 a1 = some r → cp 117 [.arr a0.length (lm (ik .i64) a0), .v (.int .i64 a1)] = some (.v (.bool r))) (H118_0 : ∀ (a0 : T_infer_ask) r, infer_ask_frames fu a0 = some r → cp 118 [.agg (c_T_infer_ask a0)] = some (.v (.bool r))) : J (go Tryz.prog noC cp noI 0 [] d89 fu (fin Tryz.prog [.tmp 2] [4]) (bodyOf Tryz.f89) (initE 0 [.agg (c_T_infer_ask x1)]) [] []) (infer_ask_attributes fu x1) e89 := by
 unfold infer_ask_attributes e89
 refine J.chk fun h1 => ?_
 refine J.bind fun x2 h2 => ?_
 have e_h2 := H113_0 _ _ h2
 try simp only [NN, NT, LN, simprocAttr, DT] at e_h2
 conv => arg 1; simp (disch := first | exact Zd | fail) only [bodyOf, Tryz.f89, ZZ, d89_at, simprocAttr, h1, e_h2]
 refine J.eq go_seq ?_
 conv => arg 1; simp (disch := first | exact Zd | fail) only [ZZ, d89_at, simprocAttr, h1, e_h2]
 refine J.eq go_seq ?_
 conv => arg 1; simp (disch := first | exact Zd | fail) only [ZZ, d89_at, simprocAttr, h1, e_h2]
 refine J.eq ret_seq ?_
 conv => arg 1; simp (disch := first | exact Zd | fail) only [ZZ, d89_at, simprocAttr, h1, e_h2]
 refine J.joinS (fun (t : Unit) => ([(1, .ptr (0, 1, 0) 0 0), (3, .ptr (0, 3, 0) 0 0), (4, .v (.int .i64 x2)), (17, .v (.int .i64 75)), (58, .v (.bool (decide ((75 : Int) = 64)))), (99, .v (.bool (decide ((75 : Int) = 80))))], [((0, 1, 0), .bx true ([.v (.int .i64 75), .v (.int .i64 x1.fs.fAxis), .arr x1.fs.fAxes.length (lm (ik .i64) x1.fs.fAxes), .v (.bool x1.fs.fHasAxes), .v (.bool x1.fs.fKeep), .v (.bool x1.fs.fNoop), .v (.bool x1.fs.fLast), .v (.bool x1.fs.fZero), .arr x1.fs.fPerm.length (lm (ik .i64) x1.fs.fPerm), .v (.bool x1.fs.fHasPerm), .v (.int .u32 x1.fs.fAlpha), .v (.int .u32 x1.fs.fBeta), .v (.int .u32 x1.fs.fEpsilon), .v (.bool x1.fs.fLow), .v (.bool x1.fs.fHigh), .v (.bool x1.fs.fFmod), .v (.int .i64 x1.fs.fTo), .v (.int .i64 x1.fs.fMode), .v (.bool x1.fs.fTransA), .v (.bool x1.fs.fTransB), .v (.int .i64 x1.fs.fGroup), .arr x1.fs.fKernel.length (lm (ik .i64) x1.fs.fKernel), .arr x1.fs.fStrides.length (lm (ik .i64) x1.fs.fStrides), .arr x1.fs.fPads.length (lm (ik .i64) x1.fs.fPads), .arr x1.fs.fDilations.length (lm (ik .i64) x1.fs.fDilations), .v (.int .i64 x1.fs.fAuto), .v (.bool x1.fs.fCeil), .v (.bool x1.fs.fCount), .v (.int .i64 x1.fs.fBlock), .v (.int .i64 x1.fs.fStart), .v (.int .i64 x1.fs.fEnd), .v (.bool x1.fs.fHasEnd), .v (.int .i64 x1.fs.fValue.fType), .arr x1.fs.fValue.fDims.length (lm (ik .i64) x1.fs.fValue.fDims), .arr x1.fs.fValue.fF.length (lm (ik .u32) x1.fs.fValue.fF), .arr x1.fs.fValue.fI.length (lm (ik .i64) x1.fs.fValue.fI), .arr x1.fs.fValue.fB.length (lm (bk) x1.fs.fValue.fB), .arr x1.fin.length (fm c_T_Val x1.fin), .v (.int .i64 x1.fouts)])), ((0, 3, 0), .bx true ([.v (.int .i64 x1.fs.fAxis), .arr x1.fs.fAxes.length (lm (ik .i64) x1.fs.fAxes), .v (.bool x1.fs.fHasAxes), .v (.bool x1.fs.fKeep), .v (.bool x1.fs.fNoop), .v (.bool x1.fs.fLast), .v (.bool x1.fs.fZero), .arr x1.fs.fPerm.length (lm (ik .i64) x1.fs.fPerm), .v (.bool x1.fs.fHasPerm), .v (.int .u32 x1.fs.fAlpha), .v (.int .u32 x1.fs.fBeta), .v (.int .u32 x1.fs.fEpsilon), .v (.bool x1.fs.fLow), .v (.bool x1.fs.fHigh), .v (.bool x1.fs.fFmod), .v (.int .i64 x1.fs.fTo), .v (.int .i64 x1.fs.fMode), .v (.bool x1.fs.fTransA), .v (.bool x1.fs.fTransB), .v (.int .i64 x1.fs.fGroup), .arr x1.fs.fKernel.length (lm (ik .i64) x1.fs.fKernel), .arr x1.fs.fStrides.length (lm (ik .i64) x1.fs.fStrides), .arr x1.fs.fPads.length (lm (ik .i64) x1.fs.fPads), .arr x1.fs.fDilations.length (lm (ik .i64) x1.fs.fDilations), .v (.int .i64 x1.fs.fAuto), .v (.bool x1.fs.fCeil), .v (.bool x1.fs.fCount), .v (.int .i64 x1.fs.fBlock), .v (.int .i64 x1.fs.fStart), .v (.int .i64 x1.fs.fEnd), .v (.bool x1.fs.fHasEnd), .v (.int .i64 x1.fs.fValue.fType), .arr x1.fs.fValue.fDims.length (lm (ik .i64) x1.fs.fValue.fDims), .arr x1.fs.fValue.fF.length (lm (ik .u32) x1.fs.fValue.fF), .arr x1.fs.fValue.fI.length (lm (ik .i64) x1.fs.fValue.fI), .arr x1.fs.fValue.fB.length (lm (bk) x1.fs.fValue.fB)]))])) (fun t => infer_ask_attributes_k1 fu x1) ?_ (fun hj1 => ?_)
 ·rintro ⟨⟩
  show J _ (infer_ask_attributes_k1 fu x1) _
  unfold infer_ask_attributes_k1
  conv => arg 1; simp (disch := first | exact Zd | fail) only [ZZ, d89_at, simprocAttr, h1, e_h2]
  refine J.joinS (fun (t : Unit) => ([(1, .ptr (0, 1, 0) 0 0), (3, .ptr (0, 3, 0) 0 0), (4, .v (.int .i64 x2)), (17, .v (.int .i64 75)), (58, .v (.bool (decide ((75 : Int) = 64)))), (99, .v (.bool (decide ((75 : Int) = 80)))), (131, .v (.bool (decide ((75 : Int) = 69))))], [((0, 1, 0), .bx true ([.v (.int .i64 75), .v (.int .i64 x1.fs.fAxis), .arr x1.fs.fAxes.length (lm (ik .i64) x1.fs.fAxes), .v (.bool x1.fs.fHasAxes), .v (.bool x1.fs.fKeep), .v (.bool x1.fs.fNoop), .v (.bool x1.fs.fLast), .v (.bool x1.fs.fZero), .arr x1.fs.fPerm.length (lm (ik .i64) x1.fs.fPerm), .v (.bool x1.fs.fHasPerm), .v (.int .u32 x1.fs.fAlpha), .v (.int .u32 x1.fs.fBeta), .v (.int .u32 x1.fs.fEpsilon), .v (.bool x1.fs.fLow), .v (.bool x1.fs.fHigh), .v (.bool x1.fs.fFmod), .v (.int .i64 x1.fs.fTo), .v (.int .i64 x1.fs.fMode), .v (.bool x1.fs.fTransA), .v (.bool x1.fs.fTransB), .v (.int .i64 x1.fs.fGroup), .arr x1.fs.fKernel.length (lm (ik .i64) x1.fs.fKernel), .arr x1.fs.fStrides.length (lm (ik .i64) x1.fs.fStrides), .arr x1.fs.fPads.length (lm (ik .i64) x1.fs.fPads), .arr x1.fs.fDilations.length (lm (ik .i64) x1.fs.fDilations), .v (.int .i64 x1.fs.fAuto), .v (.bool x1.fs.fCeil), .v (.bool x1.fs.fCount), .v (.int .i64 x1.fs.fBlock), .v (.int .i64 x1.fs.fStart), .v (.int .i64 x1.fs.fEnd), .v (.bool x1.fs.fHasEnd), .v (.int .i64 x1.fs.fValue.fType), .arr x1.fs.fValue.fDims.length (lm (ik .i64) x1.fs.fValue.fDims), .arr x1.fs.fValue.fF.length (lm (ik .u32) x1.fs.fValue.fF), .arr x1.fs.fValue.fI.length (lm (ik .i64) x1.fs.fValue.fI), .arr x1.fs.fValue.fB.length (lm (bk) x1.fs.fValue.fB), .arr x1.fin.length (fm c_T_Val x1.fin), .v (.int .i64 x1.fouts)])), ((0, 3, 0), .bx true ([.v (.int .i64 x1.fs.fAxis), .arr x1.fs.fAxes.length (lm (ik .i64) x1.fs.fAxes), .v (.bool x1.fs.fHasAxes), .v (.bool x1.fs.fKeep), .v (.bool x1.fs.fNoop), .v (.bool x1.fs.fLast), .v (.bool x1.fs.fZero), .arr x1.fs.fPerm.length (lm (ik .i64) x1.fs.fPerm), .v (.bool x1.fs.fHasPerm), .v (.int .u32 x1.fs.fAlpha), .v (.int .u32 x1.fs.fBeta), .v (.int .u32 x1.fs.fEpsilon), .v (.bool x1.fs.fLow), .v (.bool x1.fs.fHigh), .v (.bool x1.fs.fFmod), .v (.int .i64 x1.fs.fTo), .v (.int .i64 x1.fs.fMode), .v (.bool x1.fs.fTransA), .v (.bool x1.fs.fTransB), .v (.int .i64 x1.fs.fGroup), .arr x1.fs.fKernel.length (lm (ik .i64) x1.fs.fKernel), .arr x1.fs.fStrides.length (lm (ik .i64) x1.fs.fStrides), .arr x1.fs.fPads.length (lm (ik .i64) x1.fs.fPads), .arr x1.fs.fDilations.length (lm (ik .i64) x1.fs.fDilations), .v (.int .i64 x1.fs.fAuto), .v (.bool x1.fs.fCeil), .v (.bool x1.fs.fCount), .v (.int .i64 x1.fs.fBlock), .v (.int .i64 x1.fs.fStart), .v (.int .i64 x1.fs.fEnd), .v (.bool x1.fs.fHasEnd), .v (.int .i64 x1.fs.fValue.fType), .arr x1.fs.fValue.fDims.length (lm (ik .i64) x1.fs.fValue.fDims), .arr x1.fs.fValue.fF.length (lm (ik .u32) x1.fs.fValue.fF), .arr x1.fs.fValue.fI.length (lm (ik .i64) x1.fs.fValue.fI), .arr x1.fs.fValue.fB.length (lm (bk) x1.fs.fValue.fB)]))])) (fun t => infer_ask_attributes_k2 fu x1) ?_ (fun hj2 => ?_)
  ·rintro ⟨⟩
   show J _ (infer_ask_attributes_k2 fu x1) _
   unfold infer_ask_attributes_k2
   conv => arg 1; simp (disch := first | exact Zd | fail) only [ZZ, d89_at, simprocAttr, h1, e_h2]
   refine J.eq go_seq ?_
   conv => arg 1; simp (disch := first | exact Zd | fail) only [ZZ, d89_at, simprocAttr, h1, e_h2]
   refine J.ite (fun h3 => ?_) (fun h3 => ?_)
   ·have h3' := decide_eq_true h3
    have h3'' : decide (x1.fs.fGroup < 1) = false := decide_eq_false (by omega)
    conv => arg 1; simp (disch := first | exact Zd | fail) only [ZZ, d89_at, simprocAttr, h1, e_h2, h3'', h3']
    refine J.ite (fun h4 => ?_) (fun h4 => ?_)
    ·have h4' := decide_eq_true h4
     have h4'' : decide (4096 < x1.fs.fGroup) = false := decide_eq_false (by omega)
     refine J.bind fun x3 h5 => ?_
     have e_h5 := H117_0 _ _ _ h5
     try simp only [NN, NT, LN, simprocAttr, DT] at e_h5
     conv => arg 1; simp (disch := first | exact Zd | fail) only [ZZ, d89_at, simprocAttr, h1, e_h2, h3'', h3', h4'', h4', e_h5]
     refine J.ite (fun h6 => ?_) (fun h6 => ?_)
     ·have h6' : x3 = true := h6
      refine J.bind fun x4 h7 => ?_
      have e_h7 := H118_0 _ _ h7
      try simp only [NN, NT, LN, simprocAttr, DT] at e_h7
      conv => arg 1; simp (disch := first | exact Zd | fail) only [ZZ, d89_at, simprocAttr, h1, e_h2, h3'', h3', h4'', h4', e_h5, h6', e_h7]
      refine J.eq ret_seq ?_
      refine J.some ?_
      simp (maxSteps := 20000000) (disch := first | exact Zd | fail) only [ZZ, d89_at, simprocAttr, h1, e_h2, h3'', h3', h4'', h4', e_h5, h6', e_h7, FF, LN, NN, NT]
     ·have h6' : x3 = false := Bool.eq_false_iff.2 h6
      conv => arg 1; simp (disch := first | exact Zd | fail) only [ZZ, d89_at, simprocAttr, h1, e_h2, h3'', h3', h4'', h4', e_h5, h6']
      refine J.eq ret_seq ?_
      refine J.some ?_
      simp (maxSteps := 20000000) (disch := first | exact Zd | fail) only [ZZ, d89_at, simprocAttr, h1, e_h2, h3'', h3', h4'', h4', e_h5, h6', FF, LN, NN, NT]
    ·have h4' := decide_eq_false h4
     have h4'' : decide (4096 < x1.fs.fGroup) = true := decide_eq_true (by omega)
     conv => arg 1; simp (disch := first | exact Zd | fail) only [ZZ, d89_at, simprocAttr, h1, e_h2, h3'', h3', h4'', h4']
     refine J.eq ret_seq ?_
     refine J.some ?_
     simp (maxSteps := 20000000) (disch := first | exact Zd | fail) only [ZZ, d89_at, simprocAttr, h1, e_h2, h3'', h3', h4'', h4', FF, LN, NN, NT]
   ·have h3' := decide_eq_false h3
    have h3'' : decide (x1.fs.fGroup < 1) = true := decide_eq_true (by omega)
    conv => arg 1; simp (disch := first | exact Zd | fail) only [ZZ, d89_at, simprocAttr, h1, e_h2, h3'', h3']
    refine J.eq ret_seq ?_
    refine J.some ?_
    simp (maxSteps := 20000000) (disch := first | exact Zd | fail) only [ZZ, d89_at, simprocAttr, h1, e_h2, h3'', h3', FF, LN, NN, NT]
  ·conv => arg 1; simp (disch := first | exact Zd | fail) only [ZZ, d89_at, simprocAttr, h1, e_h2]
   refine J.jmp (t := ()) hj2 ?_ ?_
   ·first | rfl | (simp only [LN, NN, NT])
   ·first | (simp (disch := first | exact Zd | fail) only [RR, simprocAttr, LN, NN, NT]; done) | (simp (disch := first | exact Zd | fail) only [RR, simprocAttr, LN, fm_app, NN, NT]; done) | rfl
 ·conv => arg 1; simp (disch := first | exact Zd | fail) only [ZZ, d89_at, simprocAttr, h1, e_h2]
  refine J.jmp (t := ()) hj1 ?_ ?_
  ·first | rfl | (simp only [LN, NN, NT])
  ·first | (simp (disch := first | exact Zd | fail) only [RR, simprocAttr, LN, NN, NT]; done) | (simp (disch := first | exact Zd | fail) only [RR, simprocAttr, LN, fm_app, NN, NT]; done) | rfl
noncomputable def t89 (fu : Nat) : CallP := orE 113 (mkC (fun (t : T_infer_ask) => ([.agg (c_T_infer_ask t)] : List AV)) (fun t => infer_ask_rank fu t) e113) (orE 117 (mkC (fun (t : (List Int) × Int) => ([.arr t.1.length (lm (ik .i64) t.1), .v (.int .i64 t.2)] : List AV)) (fun t => infer_many fu t.1 t.2) e117) (orE 118 (mkC (fun (t : T_infer_ask) => ([.agg (c_T_infer_ask t)] : List AV)) (fun t => infer_ask_frames fu t) e118) (noP)))
theorem t89_ok (fu : Nat) : CpOK Tryz.prog (t89 fu ) := orE_ok (orE_ok (orE_ok (noP_ok) (mkC_ok (fun t b h => ok118 fu t  b h))) (mkC_ok (fun t b h => ok117 fu t.1 t.2  b h))) (mkC_ok (fun t b h => ok113 fu t  b h))
theorem ok89 (fu : Nat) (x1 : T_infer_ask) (r) (h : infer_ask_attributes fu x1 = some r) : PureOK Tryz.prog 89 [.agg (c_T_infer_ask x1)] (e89 r) :=
  pure_J mixed (cp := t89 fu ) (t89_ok fu  ) noI_ok i89 (w89 _ fu x1  (fun a0 r h => orE_hit (mkC_at (a := a0) (by intro a b h; first | (exact rfl) | (simp only [INJ, IJ] at h; first | exact h | (simp_all [Prod.ext_iff]) )) h)) (fun a0 a1 r h => orE_miss (by decide) (orE_hit (mkC_at (a := (a0, a1)) (by intro a b h; first | (exact rfl) | (simp only [INJ, IJ] at h; first | exact h | (simp_all [Prod.ext_iff]) )) h))) (fun a0 r h => orE_miss (by decide) (orE_miss (by decide) (orE_hit (mkC_at (a := a0) (by intro a b h; first | (exact rfl) | (simp only [INJ, IJ] at h; first | exact h | (simp_all [Prod.ext_iff]) )) h))))) h
/-! 119: (lattice/infer.ask).lists -/
open Aw (d119)
def d119_at := by have h := tabL Aw.d119.eq_1; simp only [AllAt, Nat.zero_add, Nat.reduceAdd] at h; exact h
theorem i119 : finfo Tryz.prog 119 d119 = some ⟨bodyOf Tryz.f119, [.tmp 2], [73]⟩ := finfo_at Tryz.func119 rfl (by kernel_rfl) (by kernel_rfl)
def e119 : (List T_Val) → AV := fun r => .fresh 8 r.length (fm c_T_Val r)
set_option maxHeartbeats 20000000 in
theorem w119 (cp : CallP) (fu : Nat) (x1 : T_infer_ask) : J (go Tryz.prog noC cp noI 0 [] d119 fu (fin Tryz.prog [.tmp 2] [73]) (bodyOf Tryz.f119) (initE 0 [.agg (c_T_infer_ask x1)]) [] []) (infer_ask_lists fu x1) e119 := by
 unfold infer_ask_lists e119
 refine J.chk fun h1 => ?_
 conv => arg 1; simp (disch := first | exact Zd | fail) only [bodyOf, Tryz.f119, ZZ, d119_at, simprocAttr, h1]
 refine J.eq go_seq ?_
 conv => arg 1; simp (disch := first | exact Zd | fail) only [ZZ, d119_at, simprocAttr, h1]
 refine J.joinS (fun (t : Unit) => ([(1, .ptr (0, 1, 0) 0 0), (3, .v (.int .i64 1)), (4, .v (.int .i64 2)), (8, .v (.int .i64 75)), (13, .v (.bool (decide ((75 : Int) = 65))))], [((0, 1, 0), .bx true ([.v (.int .i64 75), .v (.int .i64 x1.fs.fAxis), .arr x1.fs.fAxes.length (lm (ik .i64) x1.fs.fAxes), .v (.bool x1.fs.fHasAxes), .v (.bool x1.fs.fKeep), .v (.bool x1.fs.fNoop), .v (.bool x1.fs.fLast), .v (.bool x1.fs.fZero), .arr x1.fs.fPerm.length (lm (ik .i64) x1.fs.fPerm), .v (.bool x1.fs.fHasPerm), .v (.int .u32 x1.fs.fAlpha), .v (.int .u32 x1.fs.fBeta), .v (.int .u32 x1.fs.fEpsilon), .v (.bool x1.fs.fLow), .v (.bool x1.fs.fHigh), .v (.bool x1.fs.fFmod), .v (.int .i64 x1.fs.fTo), .v (.int .i64 x1.fs.fMode), .v (.bool x1.fs.fTransA), .v (.bool x1.fs.fTransB), .v (.int .i64 x1.fs.fGroup), .arr x1.fs.fKernel.length (lm (ik .i64) x1.fs.fKernel), .arr x1.fs.fStrides.length (lm (ik .i64) x1.fs.fStrides), .arr x1.fs.fPads.length (lm (ik .i64) x1.fs.fPads), .arr x1.fs.fDilations.length (lm (ik .i64) x1.fs.fDilations), .v (.int .i64 x1.fs.fAuto), .v (.bool x1.fs.fCeil), .v (.bool x1.fs.fCount), .v (.int .i64 x1.fs.fBlock), .v (.int .i64 x1.fs.fStart), .v (.int .i64 x1.fs.fEnd), .v (.bool x1.fs.fHasEnd), .v (.int .i64 x1.fs.fValue.fType), .arr x1.fs.fValue.fDims.length (lm (ik .i64) x1.fs.fValue.fDims), .arr x1.fs.fValue.fF.length (lm (ik .u32) x1.fs.fValue.fF), .arr x1.fs.fValue.fI.length (lm (ik .i64) x1.fs.fValue.fI), .arr x1.fs.fValue.fB.length (lm (bk) x1.fs.fValue.fB), .arr x1.fin.length (fm c_T_Val x1.fin), .v (.int .i64 x1.fouts)]))])) (fun t => infer_ask_lists_k1 fu) ?_ (fun hj1 => ?_)
 ·rintro ⟨⟩
  show J _ (infer_ask_lists_k1 fu) _
  unfold infer_ask_lists_k1
  refine J.some ?_
  simp (maxSteps := 20000000) (disch := first | exact Zd | fail) only [ZZ, d119_at, simprocAttr, h1, FF, LN, NN, NT]
 ·conv => arg 1; simp (disch := first | exact Zd | fail) only [ZZ, d119_at, simprocAttr, h1]
  refine J.jmp (t := ()) hj1 ?_ ?_
  ·first | rfl | (simp only [LN, NN, NT])
  ·first | (simp (disch := first | exact Zd | fail) only [RR, simprocAttr, LN, NN, NT]; done) | (simp (disch := first | exact Zd | fail) only [RR, simprocAttr, LN, fm_app, NN, NT]; done) | rfl
noncomputable def t119 (fu : Nat) : CallP := noP
theorem t119_ok (fu : Nat) : CpOK Tryz.prog (t119 fu ) := noP_ok
theorem ok119 (fu : Nat) (x1 : T_infer_ask) (r) (h : infer_ask_lists fu x1 = some r) : PureOK Tryz.prog 119 [.agg (c_T_infer_ask x1)] (e119 r) :=
  pure_J mixed (cp := t119 fu ) (t119_ok fu  ) noI_ok i119 (w119 _ fu x1  ) h
/-! 149: slices.IndexFunc[[]lattice/api.Val,lattice/api.Val] -/
open Aw (d149)
def d149_at := by have h := tabL Aw.d149.eq_1; simp only [AllAt, Nat.zero_add, Nat.reduceAdd] at h; exact h
theorem i149 : finfo Tryz.prog 149 d149 = some ⟨bodyOf Tryz.f149, [.tmp 4], [3]⟩ := finfo_at Tryz.func149 rfl (by kernel_rfl) (by kernel_rfl)
def e149 : Int → AV := fun r => .v (.int .i64 r)
set_option maxHeartbeats 20000000 in
theorem w149 (cp : CallP) (fu : Nat) (x1 : List T_Val) (p1 : T_Val → Option Bool) (fv_p1 : FuncId) (ca_p1 : List AV) (cap_p1 : Capt ca_p1) (hp_p1 : ∀ (y0 : T_Val) r, p1 y0 = some r → cp fv_p1 ((.agg (c_T_Val y0)) :: ca_p1) = some (.v (.bool r))) : J (go Tryz.prog noC cp noI 0 [] d149 fu (fin Tryz.prog [.tmp 4] [3]) (bodyOf Tryz.f149) (initE 0 [.arr x1.length (fm c_T_Val x1), .fn fv_p1 [] ca_p1]) [] []) (slices_IndexFunc_api_Val_api_Val fu x1 p1) e149 := by
 unfold slices_IndexFunc_api_Val_api_Val e149
 have c4_p1 := fun g => (cap_p1.1 g).1; have c3_p1 := fun g => (cap_p1.1 g).2.1; have b4_p1 := fun g => (cap_p1.1 g).2.2.1; have b3_p1 := fun g => (cap_p1.1 g).2.2.2; have nm_p1 := cap_p1.2
 conv => arg 1; simp (disch := first | exact Zd | fail) only [bodyOf, Tryz.f149, ZZ, d149_at, simprocAttr, c4_p1, c3_p1, b4_p1, b3_p1, nm_p1]
 refine J.eq go_seq ?_
 conv => arg 1; simp (disch := first | exact Zd | fail) only [ZZ, d149_at, simprocAttr, c4_p1, c3_p1, b4_p1, b3_p1, nm_p1]
 unfold slices_IndexFunc_api_Val_api_Val_W1
 refine J.loop (fun (s : Int) => ([(0, .arr x1.length (fm c_T_Val x1)), (1, .fn fv_p1 [] ca_p1), (7, .v (.int .i64 (x1.length : Int))), (8, .v (.int .i64 s))], [])) (fun next s => slices_IndexFunc_api_Val_api_Val_L1 fu p1 x1 next s) (s0 := 0) ?_ ?_ ?_
 ·first | rfl | (simp only [LN, NN, NT])
 ·first | (simp (disch := first | exact Zd | fail) only [RR, simprocAttr, LN, NN, NT]; done) | (simp (disch := first | exact Zd | fail) only [RR, simprocAttr, LN, fm_app, NN, NT]; done) | rfl
 rintro nx1 k1 hn1 x4
 show J _ (slices_IndexFunc_api_Val_api_Val_L1 fu p1 x1 nx1 x4) _
 unfold slices_IndexFunc_api_Val_api_Val_L1
 conv => arg 1; simp (disch := first | exact Zd | fail) only [ZZ, d149_at, simprocAttr, c4_p1, c3_p1, b4_p1, b3_p1, nm_p1]
 refine J.eq go_seq ?_
 conv => arg 1; simp (disch := first | exact Zd | fail) only [ZZ, d149_at, simprocAttr, c4_p1, c3_p1, b4_p1, b3_p1, nm_p1]
 refine J.ite (fun h1 => ?_) (fun h1 => ?_)
 ·have h1' := decide_eq_true h1
  have h1'' : decide ((x1.length : Int) ≤ x4) = false := decide_eq_false (by omega)
  conv => arg 1; simp (disch := first | exact Zd | fail) only [ZZ, d149_at, simprocAttr, c4_p1, c3_p1, b4_p1, b3_p1, nm_p1, h1'', h1']
  refine J.eq ret_seq ?_
  refine J.eq go_seq ?_
  refine J.at fun x7 h2 h3 h4 => ?_
  refine J.bind fun x8 h5 => ?_
  have e_h5 := hp_p1 _ _ h5
  try simp only [NN, NT, LN, simprocAttr, DT] at e_h5
  conv => arg 1; simp (disch := first | exact Zd | fail) only [ZZ, d149_at, simprocAttr, c4_p1, c3_p1, b4_p1, b3_p1, nm_p1, h1'', h1', fm_cut c_T_Val_len h4, fm_fit c_T_Val_len h4, fm_at c_T_Val_len h4, fm_at0 c_T_Val_len h4, e_h5]
  refine J.ite (fun h6 => ?_) (fun h6 => ?_)
  ·have h6' : x8 = true := h6
   refine J.some ?_
   simp (maxSteps := 20000000) (disch := first | exact Zd | fail) only [ZZ, d149_at, simprocAttr, c4_p1, c3_p1, b4_p1, b3_p1, nm_p1, h1'', h1', fm_cut c_T_Val_len h4, fm_fit c_T_Val_len h4, fm_at c_T_Val_len h4, fm_at0 c_T_Val_len h4, e_h5, h6', FF, LN, NN, NT]
  ·have h6' : x8 = false := Bool.eq_false_iff.2 h6
   conv => arg 1; simp (disch := first | exact Zd | fail) only [ZZ, d149_at, simprocAttr, c4_p1, c3_p1, b4_p1, b3_p1, nm_p1, h1'', h1', fm_cut c_T_Val_len h4, fm_fit c_T_Val_len h4, fm_at c_T_Val_len h4, fm_at0 c_T_Val_len h4, e_h5, h6']
   refine J.eq ret_seq ?_
   conv => arg 1; simp (disch := first | exact Zd | fail) only [ZZ, d149_at, simprocAttr, c4_p1, c3_p1, b4_p1, b3_p1, nm_p1, h1'', h1', fm_cut c_T_Val_len h4, fm_fit c_T_Val_len h4, fm_at c_T_Val_len h4, fm_at0 c_T_Val_len h4, e_h5, h6']
   refine J.next (s := wk .i64 (x4 + 1)) hn1 ?_ ?_
   ·first | rfl | (simp only [LN, NN, NT])
   ·first | (simp (disch := first | exact Zd | fail) only [RR, simprocAttr, LN, NN, NT]; done) | (simp (disch := first | exact Zd | fail) only [RR, simprocAttr, LN, fm_app, NN, NT]; done) | rfl
 ·have h1' := decide_eq_false h1
  have h1'' : decide ((x1.length : Int) ≤ x4) = true := decide_eq_true (by omega)
  conv => arg 1; simp (disch := first | exact Zd | fail) only [ZZ, d149_at, simprocAttr, c4_p1, c3_p1, b4_p1, b3_p1, nm_p1, h1'', h1']
  refine J.eq ret_seq ?_
  refine J.some ?_
  simp (maxSteps := 20000000) (disch := first | exact Zd | fail) only [ZZ, d149_at, simprocAttr, c4_p1, c3_p1, b4_p1, b3_p1, nm_p1, h1'', h1', FF, LN, NN, NT]
noncomputable def t149 (fu : Nat) (x1 : List T_Val) (p1 : T_Val → Option Bool) (fv_p1 : FuncId) (ca_p1 : List AV) : CallP := orE fv_p1 (mkC (fun (t : T_Val) => ((.agg (c_T_Val t)) :: ca_p1 : List AV)) (fun t => p1 t) (fun r => .v (.bool r))) (noP)
theorem t149_ok (fu : Nat) (x1 : List T_Val) (p1 : T_Val → Option Bool) (fv_p1 : FuncId) (ca_p1 : List AV) (cap_p1 : Capt ca_p1) (hp_p1 : ∀ (y0 : T_Val) r, p1 y0 = some r → PureOK Tryz.prog fv_p1 ((.agg (c_T_Val y0)) :: ca_p1) (.v (.bool r))) : CpOK Tryz.prog (t149 fu x1 p1 fv_p1 ca_p1) := orE_ok (noP_ok) (mkC_ok (fun t b h => hp_p1 t b h))
theorem ok149 (fu : Nat) (x1 : List T_Val) (p1 : T_Val → Option Bool) (fv_p1 : FuncId) (ca_p1 : List AV) (cap_p1 : Capt ca_p1) (hp_p1 : ∀ (y0 : T_Val) r, p1 y0 = some r → PureOK Tryz.prog fv_p1 ((.agg (c_T_Val y0)) :: ca_p1) (.v (.bool r))) (r) (h : slices_IndexFunc_api_Val_api_Val fu x1 p1 = some r) : PureOK Tryz.prog 149 [.arr x1.length (fm c_T_Val x1), .fn fv_p1 [] ca_p1] (e149 r) :=
  pure_J mixed (cp := t149 fu x1 p1 fv_p1 ca_p1) (t149_ok fu x1 p1 fv_p1 ca_p1 cap_p1 hp_p1) noI_ok i149 (w149 _ fu x1 p1 fv_p1 ca_p1 cap_p1 (fun y0 r h => orE_hit (mkC_at (a := y0) (by intro a b h; first | (exact rfl) | (simp only [INJ, IJ] at h; first | exact h | (simp_all [Prod.ext_iff]) )) h)) ) h
/-! 120: slices.ContainsFunc[[]lattice/api.Val,lattice/api.Val] -/
open Aw (d120)
def d120_at := by have h := tabL Aw.d120.eq_1; simp only [AllAt, Nat.zero_add, Nat.reduceAdd] at h; exact h
theorem i120 : finfo Tryz.prog 120 d120 = some ⟨bodyOf Tryz.f120, [.tmp 4], [4]⟩ := finfo_at Tryz.func120 rfl (by kernel_rfl) (by kernel_rfl)
def e120 : Bool → AV := fun r => .v (.bool r)
set_option maxHeartbeats 20000000 in
theorem w120 (cp : CallP) (fu : Nat) (x1 : List T_Val) (p1 : T_Val → Option Bool) (fv_p1 : FuncId) (ca_p1 : List AV) (cap_p1 : Capt ca_p1) (hp_p1 : ∀ (y0 : T_Val) r, p1 y0 = some r → cp fv_p1 ((.agg (c_T_Val y0)) :: ca_p1) = some (.v (.bool r))) (H149_0 : ∀ (a0 : List T_Val) r, slices_IndexFunc_api_Val_api_Val fu a0 p1 = some r → cp 149 [.arr a0.length (fm c_T_Val a0), .fn fv_p1 [] ca_p1] = some (.v (.int .i64 r))) : J (go Tryz.prog noC cp noI 0 [] d120 fu (fin Tryz.prog [.tmp 4] [4]) (bodyOf Tryz.f120) (initE 0 [.arr x1.length (fm c_T_Val x1), .fn fv_p1 [] ca_p1]) [] []) (slices_ContainsFunc_api_Val_api_Val fu x1 p1) e120 := by
 unfold slices_ContainsFunc_api_Val_api_Val e120
 have c4_p1 := fun g => (cap_p1.1 g).1; have c3_p1 := fun g => (cap_p1.1 g).2.1; have b4_p1 := fun g => (cap_p1.1 g).2.2.1; have b3_p1 := fun g => (cap_p1.1 g).2.2.2; have nm_p1 := cap_p1.2
 refine J.bind fun x2 h1 => ?_
 have e_h1 := H149_0 _ _ h1
 try simp only [NN, NT, LN, simprocAttr, DT] at e_h1
 refine J.some ?_
 simp (maxSteps := 20000000) (disch := first | exact Zd | fail) only [bodyOf, Tryz.f120, ZZ, d120_at, simprocAttr, c4_p1, c3_p1, b4_p1, b3_p1, nm_p1, e_h1, FF, LN, NN, NT]
noncomputable def t120 (fu : Nat) (x1 : List T_Val) (p1 : T_Val → Option Bool) (fv_p1 : FuncId) (ca_p1 : List AV) : CallP := orE 149 (mkC (fun (t : List T_Val) => ([.arr t.length (fm c_T_Val t), .fn fv_p1 [] ca_p1] : List AV)) (fun t => slices_IndexFunc_api_Val_api_Val fu t p1) e149) (orE fv_p1 (mkC (fun (t : T_Val) => ((.agg (c_T_Val t)) :: ca_p1 : List AV)) (fun t => p1 t) (fun r => .v (.bool r))) (noP))
theorem t120_ok (fu : Nat) (x1 : List T_Val) (p1 : T_Val → Option Bool) (fv_p1 : FuncId) (ca_p1 : List AV) (cap_p1 : Capt ca_p1) (hp_p1 : ∀ (y0 : T_Val) r, p1 y0 = some r → PureOK Tryz.prog fv_p1 ((.agg (c_T_Val y0)) :: ca_p1) (.v (.bool r))) : CpOK Tryz.prog (t120 fu x1 p1 fv_p1 ca_p1) := orE_ok (orE_ok (noP_ok) (mkC_ok (fun t b h => hp_p1 t b h))) (mkC_ok (fun t b h => ok149 fu t p1 fv_p1 ca_p1 cap_p1 hp_p1 b h))
theorem ok120 (fu : Nat) (x1 : List T_Val) (p1 : T_Val → Option Bool) (fv_p1 : FuncId) (ca_p1 : List AV) (cap_p1 : Capt ca_p1) (hp_p1 : ∀ (y0 : T_Val) r, p1 y0 = some r → PureOK Tryz.prog fv_p1 ((.agg (c_T_Val y0)) :: ca_p1) (.v (.bool r))) (r) (h : slices_ContainsFunc_api_Val_api_Val fu x1 p1 = some r) : PureOK Tryz.prog 120 [.arr x1.length (fm c_T_Val x1), .fn fv_p1 [] ca_p1] (e120 r) :=
  pure_J mixed (cp := t120 fu x1 p1 fv_p1 ca_p1) (t120_ok fu x1 p1 fv_p1 ca_p1 cap_p1 hp_p1) noI_ok i120 (w120 _ fu x1 p1 fv_p1 ca_p1 cap_p1 (fun y0 r h => orE_skip (fun hfv => mkC_none (by intro t h; simp at h)) (orE_hit (mkC_at (a := y0) (by intro a b h; first | (exact rfl) | (simp only [INJ, IJ] at h; first | exact h | (simp_all [Prod.ext_iff]) )) h))) (fun a0 r h => orE_hit (mkC_at (a := a0) (by intro a b h; first | (exact rfl) | (simp only [INJ, IJ] at h; first | exact h | (simp_all [Prod.ext_iff]) )) h))) h
/-! 128: slices.Equal[[]int,int] -/
def d128 : List (Nat × List Nat) := [(0, [4]), (0, [0, 1, 12, 13]), (0, [6, 7, 8, 9]), (0, []), (0, []), (0, []), (0, [11]), (0, []), (0, []), (0, []), (0, [15]), (0, []), (9, [5, 16, 17, 18, 19, 20, 21, 22, 23]), (0, []), (0, []), (0, []), (0, [25]), (0, []), (0, [])]
def d128_at := by have h := tabL d128.eq_1; simp only [AllAt, Nat.zero_add, Nat.reduceAdd] at h; exact h
theorem i128 : finfo Tryz.prog 128 d128 = some ⟨bodyOf Tryz.f128, [.tmp 4], [4]⟩ := finfo_at Tryz.func128 rfl (by kernel_rfl) (by kernel_rfl)
def e128 : Bool → AV := fun r => .v (.bool r)
set_option maxHeartbeats 20000000 in
theorem w128 (cp : CallP) (fu : Nat) (x1 : List Int) (x2 : List Int) : J (go Tryz.prog noC cp noI 0 [] d128 fu (fin Tryz.prog [.tmp 4] [4]) (bodyOf Tryz.f128) (initE 0 [.arr x1.length (lm (ik .i64) x1), .arr x2.length (lm (ik .i64) x2)]) [] []) (slices_Equal_int fu x1 x2) e128 := by
 unfold slices_Equal_int e128
 conv => arg 1; simp (disch := first | exact Zd | fail) only [bodyOf, Tryz.f128, ZZ, d128_at, simprocAttr]
 refine J.eq go_seq ?_
 conv => arg 1; simp (disch := first | exact Zd | fail) only [ZZ, d128_at, simprocAttr]
 refine J.ite (fun h1 => ?_) (fun h1 => ?_)
 ·have h1' := decide_eq_true h1
  conv => arg 1; simp (disch := first | exact Zd | fail) only [ZZ, d128_at, simprocAttr, h1']
  refine J.eq ret_seq ?_
  refine J.eq go_seq ?_
  conv => arg 1; simp (disch := first | exact Zd | fail) only [ZZ, d128_at, simprocAttr, h1']
  unfold slices_Equal_int_W1
  refine J.loop (fun (s : Int) => ([(0, .arr x1.length (lm (ik .i64) x1)), (1, .arr x2.length (lm (ik .i64) x2)), (12, .v (.int .i64 (x1.length : Int))), (13, .v (.int .i64 s))], [])) (fun next s => slices_Equal_int_L1 fu x1 x2 next s) (s0 := 0) ?_ ?_ ?_
  ·first | rfl | (simp only [LN, NN, NT])
  ·first | (simp (disch := first | exact Zd | fail) only [RR, simprocAttr, LN, NN, NT]; done) | (simp (disch := first | exact Zd | fail) only [RR, simprocAttr, LN, fm_app, NN, NT]; done) | rfl
  rintro nx1 k1 hn1 x5
  show J _ (slices_Equal_int_L1 fu x1 x2 nx1 x5) _
  unfold slices_Equal_int_L1
  conv => arg 1; simp (disch := first | exact Zd | fail) only [ZZ, d128_at, simprocAttr, h1']
  refine J.eq go_seq ?_
  conv => arg 1; simp (disch := first | exact Zd | fail) only [ZZ, d128_at, simprocAttr, h1']
  refine J.ite (fun h2 => ?_) (fun h2 => ?_)
  ·have h2' := decide_eq_true h2
   have h2'' : decide ((x1.length : Int) ≤ x5) = false := decide_eq_false (by omega)
   conv => arg 1; simp (disch := first | exact Zd | fail) only [ZZ, d128_at, simprocAttr, h1', h2'', h2']
   refine J.eq ret_seq ?_
   refine J.eq go_seq ?_
   refine J.at fun x8 h3 h4 h5 => ?_
   refine J.at fun x9 h6 h7 h8 => ?_
   conv => arg 1; simp (disch := first | exact Zd | fail) only [ZZ, d128_at, simprocAttr, h1', h2'', h2', lm_ik h5, lm_ik h8]
   refine J.ite (fun h9 => ?_) (fun h9 => ?_)
   ·have h9' := decide_eq_true h9
    conv => arg 1; simp (disch := first | exact Zd | fail) only [ZZ, d128_at, simprocAttr, h1', h2'', h2', lm_ik h5, lm_ik h8, h9']
    refine J.eq ret_seq ?_
    conv => arg 1; simp (disch := first | exact Zd | fail) only [ZZ, d128_at, simprocAttr, h1', h2'', h2', lm_ik h5, lm_ik h8, h9']
    refine J.next (s := wk .i64 (x5 + 1)) hn1 ?_ ?_
    ·first | rfl | (simp only [LN, NN, NT])
    ·first | (simp (disch := first | exact Zd | fail) only [RR, simprocAttr, LN, NN, NT]; done) | (simp (disch := first | exact Zd | fail) only [RR, simprocAttr, LN, fm_app, NN, NT]; done) | rfl
   ·have h9' := decide_eq_false h9
    refine J.some ?_
    simp (maxSteps := 20000000) (disch := first | exact Zd | fail) only [ZZ, d128_at, simprocAttr, h1', h2'', h2', lm_ik h5, lm_ik h8, h9', FF, LN, NN, NT]
  ·have h2' := decide_eq_false h2
   have h2'' : decide ((x1.length : Int) ≤ x5) = true := decide_eq_true (by omega)
   conv => arg 1; simp (disch := first | exact Zd | fail) only [ZZ, d128_at, simprocAttr, h1', h2'', h2']
   refine J.eq ret_seq ?_
   refine J.some ?_
   simp (maxSteps := 20000000) (disch := first | exact Zd | fail) only [ZZ, d128_at, simprocAttr, h1', h2'', h2', FF, LN, NN, NT]
 ·have h1' := decide_eq_false h1
  refine J.some ?_
  simp (maxSteps := 20000000) (disch := first | exact Zd | fail) only [ZZ, d128_at, simprocAttr, h1', FF, LN, NN, NT]
noncomputable def t128 (fu : Nat) : CallP := noP
theorem t128_ok (fu : Nat) : CpOK Tryz.prog (t128 fu ) := noP_ok
theorem ok128 (fu : Nat) (x1 : List Int) (x2 : List Int) (r) (h : slices_Equal_int fu x1 x2 = some r) : PureOK Tryz.prog 128 [.arr x1.length (lm (ik .i64) x1), .arr x2.length (lm (ik .i64) x2)] (e128 r) :=
  pure_J mixed (cp := t128 fu ) (t128_ok fu  ) noI_ok i128 (w128 _ fu x1 x2  ) h
/-! 122: lattice/infer.held -/
def d122 : List (Nat × List Nat) := [(0, [0, 2]), (0, []), (0, [1, 3, 4, 5, 6, 7, 8, 9, 10, 11, 12, 13, 14, 15, 16, 17, 18, 19, 20, 21, 22, 23, 24, 25, 26])]
def d122_at := by have h := tabL d122.eq_1; simp only [AllAt, Nat.zero_add, Nat.reduceAdd] at h; exact h
theorem i122 : finfo Tryz.prog 122 d122 = some ⟨bodyOf Tryz.f122, [.tmp 2], [4]⟩ := finfo_at Tryz.func122 rfl (by kernel_rfl) (by kernel_rfl)
def e122 : Bool → AV := fun r => .v (.bool r)
set_option maxHeartbeats 20000000 in
theorem w122 (cp : CallP) (fu : Nat) (x1 : T_Val) (H35_0 : ∀ (a0 : T_Tensor) r, tens_Check fu a0 = some r → cp 35 [.agg (c_T_Tensor a0)] = some (.v (.int .i64 r))) (H128_0 : ∀ (a0 : List Int) (a1 : List Int) r, slices_Equal_int fu a0 a1 = some r → cp 128 [.arr a0.length (lm (ik .i64) a0), .arr a1.length (lm (ik .i64) a1)] = some (.v (.bool r))) : J (go Tryz.prog noC cp noI 0 [] d122 fu (fin Tryz.prog [.tmp 2] [4]) (bodyOf Tryz.f122) (initE 0 [.agg (c_T_Val x1)]) [] []) (infer_held fu x1) e122 := by
 unfold infer_held e122
 conv => arg 1; simp (disch := first | exact Zd | fail) only [bodyOf, Tryz.f122, ZZ, d122_at, simprocAttr]
 refine J.eq go_seq ?_
 conv => arg 1; simp (disch := first | exact Zd | fail) only [ZZ, d122_at, simprocAttr]
 refine J.ite (fun h1 => ?_) (fun h1 => ?_)
 ·have h1' : x1.fConst = true := h1
  refine J.bind fun x2 h2 => ?_
  have e_h2 := H35_0 _ _ h2
  try simp only [NN, NT, LN, simprocAttr, DT] at e_h2
  conv => arg 1; simp (disch := first | exact Zd | fail) only [ZZ, d122_at, simprocAttr, h1', e_h2]
  refine J.ite (fun h3 => ?_) (fun h3 => ?_)
  ·have h3' := decide_eq_true h3
   conv => arg 1; simp (disch := first | exact Zd | fail) only [ZZ, d122_at, simprocAttr, h1', e_h2, h3']
   refine J.ite (fun h4 => ?_) (fun h4 => ?_)
   ·have h4' := decide_eq_true h4
    refine J.bind fun x3 h5 => ?_
    have e_h5 := H128_0 _ _ _ h5
    try simp only [NN, NT, LN, simprocAttr, DT] at e_h5
    conv => arg 1; simp (disch := first | exact Zd | fail) only [ZZ, d122_at, simprocAttr, h1', e_h2, h3', h4', e_h5]
    refine J.eq ret_seq ?_
    refine J.some ?_
    simp (maxSteps := 20000000) (disch := first | exact Zd | fail) only [ZZ, d122_at, simprocAttr, h1', e_h2, h3', h4', e_h5, FF, LN, NN, NT]
   ·have h4' := decide_eq_false h4
    conv => arg 1; simp (disch := first | exact Zd | fail) only [ZZ, d122_at, simprocAttr, h1', e_h2, h3', h4']
    refine J.eq ret_seq ?_
    refine J.some ?_
    simp (maxSteps := 20000000) (disch := first | exact Zd | fail) only [ZZ, d122_at, simprocAttr, h1', e_h2, h3', h4', FF, LN, NN, NT]
  ·have h3' := decide_eq_false h3
   conv => arg 1; simp (disch := first | exact Zd | fail) only [ZZ, d122_at, simprocAttr, h1', e_h2, h3']
   refine J.eq ret_seq ?_
   refine J.some ?_
   simp (maxSteps := 20000000) (disch := first | exact Zd | fail) only [ZZ, d122_at, simprocAttr, h1', e_h2, h3', FF, LN, NN, NT]
 ·have h1' : x1.fConst = false := Bool.eq_false_iff.2 h1
  conv => arg 1; simp (disch := first | exact Zd | fail) only [ZZ, d122_at, simprocAttr, h1']
  refine J.eq ret_seq ?_
  refine J.some ?_
  simp (maxSteps := 20000000) (disch := first | exact Zd | fail) only [ZZ, d122_at, simprocAttr, h1', FF, LN, NN, NT]
noncomputable def t122 (fu : Nat) : CallP := orE 35 (mkC (fun (t : T_Tensor) => ([.agg (c_T_Tensor t)] : List AV)) (fun t => tens_Check fu t) e35) (orE 128 (mkC (fun (t : (List Int) × (List Int)) => ([.arr t.1.length (lm (ik .i64) t.1), .arr t.2.length (lm (ik .i64) t.2)] : List AV)) (fun t => slices_Equal_int fu t.1 t.2) e128) (noP))
theorem t122_ok (fu : Nat) : CpOK Tryz.prog (t122 fu ) := orE_ok (orE_ok (noP_ok) (mkC_ok (fun t b h => ok128 fu t.1 t.2  b h))) (mkC_ok (fun t b h => ok35 fu t  b h))
theorem ok122 (fu : Nat) (x1 : T_Val) (r) (h : infer_held fu x1 = some r) : PureOK Tryz.prog 122 [.agg (c_T_Val x1)] (e122 r) :=
  pure_J mixed (cp := t122 fu ) (t122_ok fu  ) noI_ok i122 (w122 _ fu x1  (fun a0 r h => orE_hit (mkC_at (a := a0) (by intro a b h; first | (exact rfl) | (simp only [INJ, IJ] at h; first | exact h | (simp_all [Prod.ext_iff]) )) h)) (fun a0 a1 r h => orE_miss (by decide) (orE_hit (mkC_at (a := (a0, a1)) (by intro a b h; first | (exact rfl) | (simp only [INJ, IJ] at h; first | exact h | (simp_all [Prod.ext_iff]) )) h)))) h
/-! 121: (lattice/infer.ask).told$1 -/
def d121 : List (Nat × List Nat) := [(0, [0, 2]), (0, []), (0, [1, 3, 4, 5])]
def d121_at := by have h := tabL d121.eq_1; simp only [AllAt, Nat.zero_add, Nat.reduceAdd] at h; exact h
theorem i121 : finfo Tryz.prog 121 d121 = some ⟨bodyOf Tryz.f121, [.tmp 2], [4]⟩ := finfo_at Tryz.func121 rfl (by kernel_rfl) (by kernel_rfl)
def e121 : Bool → AV := fun r => .v (.bool r)
set_option maxHeartbeats 20000000 in
theorem w121 (cp : CallP) (fu : Nat) (x1 : T_Val) (H122_0 : ∀ (a0 : T_Val) r, infer_held fu a0 = some r → cp 122 [.agg (c_T_Val a0)] = some (.v (.bool r))) : J (go Tryz.prog noC cp noI 0 [] d121 fu (fin Tryz.prog [.tmp 2] [4]) (bodyOf Tryz.f121) (initE 0 [.agg (c_T_Val x1)]) [] []) (infer_ask_told_1 fu x1) e121 := by
 unfold infer_ask_told_1 e121
 refine J.bind fun x2 h1 => ?_
 have e_h1 := H122_0 _ _ h1
 try simp only [NN, NT, LN, simprocAttr, DT] at e_h1
 refine J.some ?_
 simp (maxSteps := 20000000) (disch := first | exact Zd | fail) only [bodyOf, Tryz.f121, ZZ, d121_at, simprocAttr, e_h1, FF, LN, NN, NT]
noncomputable def t121 (fu : Nat) : CallP := orE 122 (mkC (fun (t : T_Val) => ([.agg (c_T_Val t)] : List AV)) (fun t => infer_held fu t) e122) (noP)
theorem t121_ok (fu : Nat) : CpOK Tryz.prog (t121 fu ) := orE_ok (noP_ok) (mkC_ok (fun t b h => ok122 fu t  b h))
theorem ok121 (fu : Nat) (x1 : T_Val) (r) (h : infer_ask_told_1 fu x1 = some r) : PureOK Tryz.prog 121 [.agg (c_T_Val x1)] (e121 r) :=
  pure_J mixed (cp := t121 fu ) (t121_ok fu  ) noI_ok i121 (w121 _ fu x1  (fun a0 r h => orE_hit (mkC_at (a := a0) (by intro a b h; first | (exact rfl) | (simp only [INJ, IJ] at h; first | exact h | (simp_all [Prod.ext_iff]) )) h))) h
/-! 123: (lattice/infer.ask).told$2 -/
def d123 : List (Nat × List Nat) := [(0, [0, 2]), (0, []), (0, [1, 3, 4, 5, 6])]
def d123_at := by have h := tabL d123.eq_1; simp only [AllAt, Nat.zero_add, Nat.reduceAdd] at h; exact h
theorem i123 : finfo Tryz.prog 123 d123 = some ⟨bodyOf Tryz.f123, [.tmp 2], [4]⟩ := finfo_at Tryz.func123 rfl (by kernel_rfl) (by kernel_rfl)
def e123 : Bool → AV := fun r => .v (.bool r)
set_option maxHeartbeats 20000000 in
theorem w123 (cp : CallP) (fu : Nat) (x1 : T_Val) : J (go Tryz.prog noC cp noI 0 [] d123 fu (fin Tryz.prog [.tmp 2] [4]) (bodyOf Tryz.f123) (initE 0 [.agg (c_T_Val x1)]) [] []) (infer_ask_told_2 fu x1) e123 := by
 unfold infer_ask_told_2 e123
 refine J.some ?_
 simp (maxSteps := 20000000) (disch := first | exact Zd | fail) only [bodyOf, Tryz.f123, ZZ, d123_at, simprocAttr, FF, LN, NN, NT]
noncomputable def t123 (fu : Nat) : CallP := noP
theorem t123_ok (fu : Nat) : CpOK Tryz.prog (t123 fu ) := noP_ok
theorem ok123 (fu : Nat) (x1 : T_Val) (r) (h : infer_ask_told_2 fu x1 = some r) : PureOK Tryz.prog 123 [.agg (c_T_Val x1)] (e123 r) :=
  pure_J mixed (cp := t123 fu ) (t123_ok fu  ) noI_ok i123 (w123 _ fu x1  ) h
/-! 150: slices.IndexFunc[[]int64,int64] -/
def d150 : List (Nat × List Nat) := [(0, [4]), (0, [0, 1, 7, 8]), (0, [6]), (0, [5]), (0, []), (0, []), (0, [10]), (0, []), (0, [11, 12, 13, 14, 15]), (0, []), (0, [17]), (0, []), (0, [18]), (0, []), (0, [])]
def d150_at := by have h := tabL d150.eq_1; simp only [AllAt, Nat.zero_add, Nat.reduceAdd] at h; exact h
theorem i150 : finfo Tryz.prog 150 d150 = some ⟨bodyOf Tryz.f150, [.tmp 4], [3]⟩ := finfo_at Tryz.func150 rfl (by kernel_rfl) (by kernel_rfl)
def e150 : Int → AV := fun r => .v (.int .i64 r)
set_option maxHeartbeats 20000000 in
theorem w150 (cp : CallP) (fu : Nat) (x1 : List Int) (p1 : Int → Option Bool) (fv_p1 : FuncId) (ca_p1 : List AV) (cap_p1 : Capt ca_p1) (hp_p1 : ∀ (y0 : Int) r, p1 y0 = some r → cp fv_p1 ((.v (.int .i64 y0)) :: ca_p1) = some (.v (.bool r))) : J (go Tryz.prog noC cp noI 0 [] d150 fu (fin Tryz.prog [.tmp 4] [3]) (bodyOf Tryz.f150) (initE 0 [.arr x1.length (lm (ik .i64) x1), .fn fv_p1 [] ca_p1]) [] []) (slices_IndexFunc_int64 fu x1 p1) e150 := by
 unfold slices_IndexFunc_int64 e150
 have c4_p1 := fun g => (cap_p1.1 g).1; have c3_p1 := fun g => (cap_p1.1 g).2.1; have b4_p1 := fun g => (cap_p1.1 g).2.2.1; have b3_p1 := fun g => (cap_p1.1 g).2.2.2; have nm_p1 := cap_p1.2
 conv => arg 1; simp (disch := first | exact Zd | fail) only [bodyOf, Tryz.f150, ZZ, d150_at, simprocAttr, c4_p1, c3_p1, b4_p1, b3_p1, nm_p1]
 refine J.eq go_seq ?_
 conv => arg 1; simp (disch := first | exact Zd | fail) only [ZZ, d150_at, simprocAttr, c4_p1, c3_p1, b4_p1, b3_p1, nm_p1]
 unfold slices_IndexFunc_int64_W1
 refine J.loop (fun (s : Int) => ([(0, .arr x1.length (lm (ik .i64) x1)), (1, .fn fv_p1 [] ca_p1), (7, .v (.int .i64 (x1.length : Int))), (8, .v (.int .i64 s))], [])) (fun next s => slices_IndexFunc_int64_L1 fu p1 x1 next s) (s0 := 0) ?_ ?_ ?_
 ·first | rfl | (simp only [LN, NN, NT])
 ·first | (simp (disch := first | exact Zd | fail) only [RR, simprocAttr, LN, NN, NT]; done) | (simp (disch := first | exact Zd | fail) only [RR, simprocAttr, LN, fm_app, NN, NT]; done) | rfl
 rintro nx1 k1 hn1 x4
 show J _ (slices_IndexFunc_int64_L1 fu p1 x1 nx1 x4) _
 unfold slices_IndexFunc_int64_L1
 conv => arg 1; simp (disch := first | exact Zd | fail) only [ZZ, d150_at, simprocAttr, c4_p1, c3_p1, b4_p1, b3_p1, nm_p1]
 refine J.eq go_seq ?_
 conv => arg 1; simp (disch := first | exact Zd | fail) only [ZZ, d150_at, simprocAttr, c4_p1, c3_p1, b4_p1, b3_p1, nm_p1]
 refine J.ite (fun h1 => ?_) (fun h1 => ?_)
 ·have h1' := decide_eq_true h1
  have h1'' : decide ((x1.length : Int) ≤ x4) = false := decide_eq_false (by omega)
  conv => arg 1; simp (disch := first | exact Zd | fail) only [ZZ, d150_at, simprocAttr, c4_p1, c3_p1, b4_p1, b3_p1, nm_p1, h1'', h1']
  refine J.eq ret_seq ?_
  refine J.eq go_seq ?_
  refine J.at fun x7 h2 h3 h4 => ?_
  refine J.bind fun x8 h5 => ?_
  have e_h5 := hp_p1 _ _ h5
  try simp only [NN, NT, LN, simprocAttr, DT] at e_h5
  conv => arg 1; simp (disch := first | exact Zd | fail) only [ZZ, d150_at, simprocAttr, c4_p1, c3_p1, b4_p1, b3_p1, nm_p1, h1'', h1', lm_ik h4, e_h5]
  refine J.ite (fun h6 => ?_) (fun h6 => ?_)
  ·have h6' : x8 = true := h6
   refine J.some ?_
   simp (maxSteps := 20000000) (disch := first | exact Zd | fail) only [ZZ, d150_at, simprocAttr, c4_p1, c3_p1, b4_p1, b3_p1, nm_p1, h1'', h1', lm_ik h4, e_h5, h6', FF, LN, NN, NT]
  ·have h6' : x8 = false := Bool.eq_false_iff.2 h6
   conv => arg 1; simp (disch := first | exact Zd | fail) only [ZZ, d150_at, simprocAttr, c4_p1, c3_p1, b4_p1, b3_p1, nm_p1, h1'', h1', lm_ik h4, e_h5, h6']
   refine J.eq ret_seq ?_
   conv => arg 1; simp (disch := first | exact Zd | fail) only [ZZ, d150_at, simprocAttr, c4_p1, c3_p1, b4_p1, b3_p1, nm_p1, h1'', h1', lm_ik h4, e_h5, h6']
   refine J.next (s := wk .i64 (x4 + 1)) hn1 ?_ ?_
   ·first | rfl | (simp only [LN, NN, NT])
   ·first | (simp (disch := first | exact Zd | fail) only [RR, simprocAttr, LN, NN, NT]; done) | (simp (disch := first | exact Zd | fail) only [RR, simprocAttr, LN, fm_app, NN, NT]; done) | rfl
 ·have h1' := decide_eq_false h1
  have h1'' : decide ((x1.length : Int) ≤ x4) = true := decide_eq_true (by omega)
  conv => arg 1; simp (disch := first | exact Zd | fail) only [ZZ, d150_at, simprocAttr, c4_p1, c3_p1, b4_p1, b3_p1, nm_p1, h1'', h1']
  refine J.eq ret_seq ?_
  refine J.some ?_
  simp (maxSteps := 20000000) (disch := first | exact Zd | fail) only [ZZ, d150_at, simprocAttr, c4_p1, c3_p1, b4_p1, b3_p1, nm_p1, h1'', h1', FF, LN, NN, NT]
noncomputable def t150 (fu : Nat) (x1 : List Int) (p1 : Int → Option Bool) (fv_p1 : FuncId) (ca_p1 : List AV) : CallP := orE fv_p1 (mkC (fun (t : Int) => ((.v (.int .i64 t)) :: ca_p1 : List AV)) (fun t => p1 t) (fun r => .v (.bool r))) (noP)
theorem t150_ok (fu : Nat) (x1 : List Int) (p1 : Int → Option Bool) (fv_p1 : FuncId) (ca_p1 : List AV) (cap_p1 : Capt ca_p1) (hp_p1 : ∀ (y0 : Int) r, p1 y0 = some r → PureOK Tryz.prog fv_p1 ((.v (.int .i64 y0)) :: ca_p1) (.v (.bool r))) : CpOK Tryz.prog (t150 fu x1 p1 fv_p1 ca_p1) := orE_ok (noP_ok) (mkC_ok (fun t b h => hp_p1 t b h))
theorem ok150 (fu : Nat) (x1 : List Int) (p1 : Int → Option Bool) (fv_p1 : FuncId) (ca_p1 : List AV) (cap_p1 : Capt ca_p1) (hp_p1 : ∀ (y0 : Int) r, p1 y0 = some r → PureOK Tryz.prog fv_p1 ((.v (.int .i64 y0)) :: ca_p1) (.v (.bool r))) (r) (h : slices_IndexFunc_int64 fu x1 p1 = some r) : PureOK Tryz.prog 150 [.arr x1.length (lm (ik .i64) x1), .fn fv_p1 [] ca_p1] (e150 r) :=
  pure_J mixed (cp := t150 fu x1 p1 fv_p1 ca_p1) (t150_ok fu x1 p1 fv_p1 ca_p1 cap_p1 hp_p1) noI_ok i150 (w150 _ fu x1 p1 fv_p1 ca_p1 cap_p1 (fun y0 r h => orE_hit (mkC_at (a := y0) (by intro a b h; first | (exact rfl) | (simp only [INJ, IJ] at h; first | exact h | (simp_all [Prod.ext_iff]) )) h)) ) h
/-! 125: slices.ContainsFunc[[]int64,int64] -/
def d125 : List (Nat × List Nat) := [(0, [4]), (0, []), (0, [0, 1, 5, 6, 7, 8])]
def d125_at := by have h := tabL d125.eq_1; simp only [AllAt, Nat.zero_add, Nat.reduceAdd] at h; exact h
theorem i125 : finfo Tryz.prog 125 d125 = some ⟨bodyOf Tryz.f125, [.tmp 4], [4]⟩ := finfo_at Tryz.func125 rfl (by kernel_rfl) (by kernel_rfl)
def e125 : Bool → AV := fun r => .v (.bool r)
set_option maxHeartbeats 20000000 in
theorem w125 (cp : CallP) (fu : Nat) (x1 : List Int) (p1 : Int → Option Bool) (fv_p1 : FuncId) (ca_p1 : List AV) (cap_p1 : Capt ca_p1) (hp_p1 : ∀ (y0 : Int) r, p1 y0 = some r → cp fv_p1 ((.v (.int .i64 y0)) :: ca_p1) = some (.v (.bool r))) (H150_0 : ∀ (a0 : List Int) r, slices_IndexFunc_int64 fu a0 p1 = some r → cp 150 [.arr a0.length (lm (ik .i64) a0), .fn fv_p1 [] ca_p1] = some (.v (.int .i64 r))) : J (go Tryz.prog noC cp noI 0 [] d125 fu (fin Tryz.prog [.tmp 4] [4]) (bodyOf Tryz.f125) (initE 0 [.arr x1.length (lm (ik .i64) x1), .fn fv_p1 [] ca_p1]) [] []) (slices_ContainsFunc_int64 fu x1 p1) e125 := by
 unfold slices_ContainsFunc_int64 e125
 have c4_p1 := fun g => (cap_p1.1 g).1; have c3_p1 := fun g => (cap_p1.1 g).2.1; have b4_p1 := fun g => (cap_p1.1 g).2.2.1; have b3_p1 := fun g => (cap_p1.1 g).2.2.2; have nm_p1 := cap_p1.2
 refine J.bind fun x2 h1 => ?_
 have e_h1 := H150_0 _ _ h1
 try simp only [NN, NT, LN, simprocAttr, DT] at e_h1
 refine J.some ?_
 simp (maxSteps := 20000000) (disch := first | exact Zd | fail) only [bodyOf, Tryz.f125, ZZ, d125_at, simprocAttr, c4_p1, c3_p1, b4_p1, b3_p1, nm_p1, e_h1, FF, LN, NN, NT]
noncomputable def t125 (fu : Nat) (x1 : List Int) (p1 : Int → Option Bool) (fv_p1 : FuncId) (ca_p1 : List AV) : CallP := orE 150 (mkC (fun (t : List Int) => ([.arr t.length (lm (ik .i64) t), .fn fv_p1 [] ca_p1] : List AV)) (fun t => slices_IndexFunc_int64 fu t p1) e150) (orE fv_p1 (mkC (fun (t : Int) => ((.v (.int .i64 t)) :: ca_p1 : List AV)) (fun t => p1 t) (fun r => .v (.bool r))) (noP))
theorem t125_ok (fu : Nat) (x1 : List Int) (p1 : Int → Option Bool) (fv_p1 : FuncId) (ca_p1 : List AV) (cap_p1 : Capt ca_p1) (hp_p1 : ∀ (y0 : Int) r, p1 y0 = some r → PureOK Tryz.prog fv_p1 ((.v (.int .i64 y0)) :: ca_p1) (.v (.bool r))) : CpOK Tryz.prog (t125 fu x1 p1 fv_p1 ca_p1) := orE_ok (orE_ok (noP_ok) (mkC_ok (fun t b h => hp_p1 t b h))) (mkC_ok (fun t b h => ok150 fu t p1 fv_p1 ca_p1 cap_p1 hp_p1 b h))
theorem ok125 (fu : Nat) (x1 : List Int) (p1 : Int → Option Bool) (fv_p1 : FuncId) (ca_p1 : List AV) (cap_p1 : Capt ca_p1) (hp_p1 : ∀ (y0 : Int) r, p1 y0 = some r → PureOK Tryz.prog fv_p1 ((.v (.int .i64 y0)) :: ca_p1) (.v (.bool r))) (r) (h : slices_ContainsFunc_int64 fu x1 p1 = some r) : PureOK Tryz.prog 125 [.arr x1.length (lm (ik .i64) x1), .fn fv_p1 [] ca_p1] (e125 r) :=
  pure_J mixed (cp := t125 fu x1 p1 fv_p1 ca_p1) (t125_ok fu x1 p1 fv_p1 ca_p1 cap_p1 hp_p1) noI_ok i125 (w125 _ fu x1 p1 fv_p1 ca_p1 cap_p1 (fun y0 r h => orE_skip (fun hfv => mkC_none (by intro t h; simp at h)) (orE_hit (mkC_at (a := y0) (by intro a b h; first | (exact rfl) | (simp only [INJ, IJ] at h; first | exact h | (simp_all [Prod.ext_iff]) )) h))) (fun a0 r h => orE_hit (mkC_at (a := a0) (by intro a b h; first | (exact rfl) | (simp only [INJ, IJ] at h; first | exact h | (simp_all [Prod.ext_iff]) )) h))) h
/-! 126: (lattice/infer.ask).told$3$1 -/
def d126 : List (Nat × List Nat) := [(0, [2]), (0, []), (0, [0, 3, 4])]
def d126_at := by have h := tabL d126.eq_1; simp only [AllAt, Nat.zero_add, Nat.reduceAdd] at h; exact h
theorem i126 : finfo Tryz.prog 126 d126 = some ⟨bodyOf Tryz.f126, [.tmp 2], [4]⟩ := finfo_at Tryz.func126 rfl (by kernel_rfl) (by kernel_rfl)
def e126 : Bool → AV := fun r => .v (.bool r)
set_option maxHeartbeats 20000000 in
theorem w126 (cp : CallP) (fu : Nat) (x1 : Int) : J (go Tryz.prog noC cp noI 0 [] d126 fu (fin Tryz.prog [.tmp 2] [4]) (bodyOf Tryz.f126) (initE 0 [.v (.int .i64 x1)]) [] []) (infer_ask_told_3_1 fu x1) e126 := by
 unfold infer_ask_told_3_1 e126
 refine J.some ?_
 simp (maxSteps := 20000000) (disch := first | exact Zd | fail) only [bodyOf, Tryz.f126, ZZ, d126_at, simprocAttr, FF, LN, NN, NT]
noncomputable def t126 (fu : Nat) : CallP := noP
theorem t126_ok (fu : Nat) : CpOK Tryz.prog (t126 fu ) := noP_ok
theorem ok126 (fu : Nat) (x1 : Int) (r) (h : infer_ask_told_3_1 fu x1 = some r) : PureOK Tryz.prog 126 [.v (.int .i64 x1)] (e126 r) :=
  pure_J mixed (cp := t126 fu ) (t126_ok fu  ) noI_ok i126 (w126 _ fu x1  ) h
/-! 124: (lattice/infer.ask).told$3 -/
def d124 : List (Nat × List Nat) := [(0, [0, 2]), (0, []), (0, [1, 3, 4, 5, 6])]
def d124_at := by have h := tabL d124.eq_1; simp only [AllAt, Nat.zero_add, Nat.reduceAdd] at h; exact h
theorem i124 : finfo Tryz.prog 124 d124 = some ⟨bodyOf Tryz.f124, [.tmp 2], [4]⟩ := finfo_at Tryz.func124 rfl (by kernel_rfl) (by kernel_rfl)
def e124 : Bool → AV := fun r => .v (.bool r)
set_option maxHeartbeats 20000000 in
theorem w124 (cp : CallP) (fu : Nat) (x1 : T_Val) (H125_0 : ∀ (a0 : List Int) r, slices_ContainsFunc_int64 fu a0 (fun y0 => infer_ask_told_3_1 fu y0) = some r → cp 125 [.arr a0.length (lm (ik .i64) a0), .fn 126 [] []] = some (.v (.bool r))) : J (go Tryz.prog noC cp noI 0 [] d124 fu (fin Tryz.prog [.tmp 2] [4]) (bodyOf Tryz.f124) (initE 0 [.agg (c_T_Val x1)]) [] []) (infer_ask_told_3 fu x1) e124 := by
 unfold infer_ask_told_3 e124
 refine J.bind fun x2 h1 => ?_
 have e_h1 := H125_0 _ _ h1
 try simp only [NN, NT, LN, simprocAttr, DT] at e_h1
 refine J.some ?_
 simp (maxSteps := 20000000) (disch := first | exact Zd | fail) only [bodyOf, Tryz.f124, ZZ, d124_at, simprocAttr, e_h1, FF, LN, NN, NT]
noncomputable def t124 (fu : Nat) : CallP := orE 125 (mkC (fun (t : List Int) => ([.arr t.length (lm (ik .i64) t), .fn 126 [] []] : List AV)) (fun t => slices_ContainsFunc_int64 fu t (fun y0 => infer_ask_told_3_1 fu y0)) e125) (noP)
theorem t124_ok (fu : Nat) : CpOK Tryz.prog (t124 fu ) := orE_ok (noP_ok) (mkC_ok (fun t b h => ok125 fu t (fun y0 => infer_ask_told_3_1 fu y0) 126 [] Capt.nil (fun y0 r h => ok126 fu y0  r h) b h))
theorem ok124 (fu : Nat) (x1 : T_Val) (r) (h : infer_ask_told_3 fu x1 = some r) : PureOK Tryz.prog 124 [.agg (c_T_Val x1)] (e124 r) :=
  pure_J mixed (cp := t124 fu ) (t124_ok fu  ) noI_ok i124 (w124 _ fu x1  (fun a0 r h => orE_hit (mkC_at (a := a0) (by intro a b h; first | (exact rfl) | (simp only [INJ, IJ] at h; first | exact h | (simp_all [Prod.ext_iff]) )) h))) h
/-! 90: (lattice/infer.ask).told -/
open Aw (d90)
def d90_at := by have h := tabL Aw.d90.eq_1; simp only [AllAt, Nat.zero_add, Nat.reduceAdd] at h; exact h
theorem i90 : finfo Tryz.prog 90 d90 = some ⟨bodyOf Tryz.f90, [.tmp 2], [32]⟩ := finfo_at Tryz.func90 rfl (by kernel_rfl) (by kernel_rfl)
def e90 : Int → AV := fun r => .v (.int .i64 r)
set_option maxHeartbeats 20000000 in
theorem w90 (cp : CallP) (fu : Nat) (x1 : T_infer_ask) (H119_0 : ∀ (a0 : T_infer_ask) r, infer_ask_lists fu a0 = some r → cp 119 [.agg (c_T_infer_ask a0)] = some (.fresh 8 r.length (fm c_T_Val r))) (H120_0 : ∀ (a0 : List T_Val) r, slices_ContainsFunc_api_Val_api_Val fu a0 (fun y0 => infer_ask_told_1 fu y0) = some r → cp 120 [.arr a0.length (fm c_T_Val a0), .fn 121 [] []] = some (.v (.bool r))) (H120_1 : ∀ (a0 : List T_Val) r, slices_ContainsFunc_api_Val_api_Val fu a0 (fun y0 => infer_ask_told_2 fu y0) = some r → cp 120 [.arr a0.length (fm c_T_Val a0), .fn 123 [] []] = some (.v (.bool r))) (H120_2 : ∀ (a0 : List T_Val) r, slices_ContainsFunc_api_Val_api_Val fu a0 (fun y0 => infer_ask_told_3 fu y0) = some r → cp 120 [.arr a0.length (fm c_T_Val a0), .fn 124 [] []] = some (.v (.bool r))) : J (go Tryz.prog noC cp noI 0 [] d90 fu (fin Tryz.prog [.tmp 2] [32]) (bodyOf Tryz.f90) (initE 0 [.agg (c_T_infer_ask x1)]) [] []) (infer_ask_told fu x1) e90 := by
 unfold infer_ask_told e90
 refine J.chk fun h1 => ?_
 refine J.bind fun x2 h2 => ?_
 have e_h2 := H119_0 _ _ h2
 try simp only [NN, NT, LN, simprocAttr, DT] at e_h2
 conv => arg 1; simp (disch := first | exact Zd | fail) only [bodyOf, Tryz.f90, ZZ, d90_at, simprocAttr, h1, e_h2]
 refine J.eq go_seq ?_
 refine J.bind fun x3 h3 => ?_
 have e_h3 := H120_0 _ _ h3
 try simp only [NN, NT, LN, simprocAttr, DT] at e_h3
 conv => arg 1; simp (disch := first | exact Zd | fail) only [ZZ, d90_at, simprocAttr, h1, e_h2, e_h3]
 refine J.ite (fun h4 => ?_) (fun h4 => ?_)
 ·have h4' : x3 = true := h4
  refine J.some ?_
  simp (maxSteps := 20000000) (disch := first | exact Zd | fail) only [ZZ, d90_at, simprocAttr, h1, e_h2, e_h3, h4', FF, LN, NN, NT]
 ·have h4' : x3 = false := Bool.eq_false_iff.2 h4
  refine J.bind fun x4 h5 => ?_
  have e_h5 := H120_1 _ _ h5
  try simp only [NN, NT, LN, simprocAttr, DT] at e_h5
  conv => arg 1; simp (disch := first | exact Zd | fail) only [ZZ, d90_at, simprocAttr, h1, e_h2, e_h3, h4', e_h5]
  refine J.ite (fun h6 => ?_) (fun h6 => ?_)
  ·have h6' : x4 = true := h6
   refine J.some ?_
   simp (maxSteps := 20000000) (disch := first | exact Zd | fail) only [ZZ, d90_at, simprocAttr, h1, e_h2, e_h3, h4', e_h5, h6', FF, LN, NN, NT]
  ·have h6' : x4 = false := Bool.eq_false_iff.2 h6
   conv => arg 1; simp (disch := first | exact Zd | fail) only [ZZ, d90_at, simprocAttr, h1, e_h2, e_h3, h4', e_h5, h6']
   refine J.eq go_seq ?_
   refine J.bind fun x5 h7 => ?_
   have e_h7 := H120_2 _ _ h7
   try simp only [NN, NT, LN, simprocAttr, DT] at e_h7
   conv => arg 1; simp (disch := first | exact Zd | fail) only [ZZ, d90_at, simprocAttr, h1, e_h2, e_h3, h4', e_h5, h6', e_h7]
   refine J.eq ret_seq ?_
   conv => arg 1; simp (disch := first | exact Zd | fail) only [ZZ, d90_at, simprocAttr, h1, e_h2, e_h3, h4', e_h5, h6', e_h7]
   refine J.ite (fun h8 => ?_) (fun h8 => ?_)
   ·have h8' : x5 = true := h8
    refine J.some ?_
    simp (maxSteps := 20000000) (disch := first | exact Zd | fail) only [ZZ, d90_at, simprocAttr, h1, e_h2, e_h3, h4', e_h5, h6', e_h7, h8', FF, LN, NN, NT]
   ·have h8' : x5 = false := Bool.eq_false_iff.2 h8
    conv => arg 1; simp (disch := first | exact Zd | fail) only [ZZ, d90_at, simprocAttr, h1, e_h2, e_h3, h4', e_h5, h6', e_h7, h8']
    refine J.eq ret_seq ?_
    refine J.some ?_
    simp (maxSteps := 20000000) (disch := first | exact Zd | fail) only [ZZ, d90_at, simprocAttr, h1, e_h2, e_h3, h4', e_h5, h6', e_h7, h8', FF, LN, NN, NT]
noncomputable def t90 (fu : Nat) : CallP := orE 119 (mkC (fun (t : T_infer_ask) => ([.agg (c_T_infer_ask t)] : List AV)) (fun t => infer_ask_lists fu t) e119) (orE 120 (mkC (fun (t : List T_Val) => ([.arr t.length (fm c_T_Val t), .fn 121 [] []] : List AV)) (fun t => slices_ContainsFunc_api_Val_api_Val fu t (fun y0 => infer_ask_told_1 fu y0)) e120) (orE 120 (mkC (fun (t : List T_Val) => ([.arr t.length (fm c_T_Val t), .fn 123 [] []] : List AV)) (fun t => slices_ContainsFunc_api_Val_api_Val fu t (fun y0 => infer_ask_told_2 fu y0)) e120) (orE 120 (mkC (fun (t : List T_Val) => ([.arr t.length (fm c_T_Val t), .fn 124 [] []] : List AV)) (fun t => slices_ContainsFunc_api_Val_api_Val fu t (fun y0 => infer_ask_told_3 fu y0)) e120) (noP))))
theorem t90_ok (fu : Nat) : CpOK Tryz.prog (t90 fu ) := orE_ok (orE_ok (orE_ok (orE_ok (noP_ok) (mkC_ok (fun t b h => ok120 fu t (fun y0 => infer_ask_told_3 fu y0) 124 [] Capt.nil (fun y0 r h => ok124 fu y0  r h) b h))) (mkC_ok (fun t b h => ok120 fu t (fun y0 => infer_ask_told_2 fu y0) 123 [] Capt.nil (fun y0 r h => ok123 fu y0  r h) b h))) (mkC_ok (fun t b h => ok120 fu t (fun y0 => infer_ask_told_1 fu y0) 121 [] Capt.nil (fun y0 r h => ok121 fu y0  r h) b h))) (mkC_ok (fun t b h => ok119 fu t  b h))
theorem ok90 (fu : Nat) (x1 : T_infer_ask) (r) (h : infer_ask_told fu x1 = some r) : PureOK Tryz.prog 90 [.agg (c_T_infer_ask x1)] (e90 r) :=
  pure_J mixed (cp := t90 fu ) (t90_ok fu  ) noI_ok i90 (w90 _ fu x1  (fun a0 r h => orE_hit (mkC_at (a := a0) (by intro a b h; first | (exact rfl) | (simp only [INJ, IJ] at h; first | exact h | (simp_all [Prod.ext_iff]) )) h)) (fun a0 r h => orE_miss (by decide) (orE_hit (mkC_at (a := a0) (by intro a b h; first | (exact rfl) | (simp only [INJ, IJ] at h; first | exact h | (simp_all [Prod.ext_iff]) )) h))) (fun a0 r h => orE_miss (by decide) (orE_next (mkC_none (by intro t h; simp at h)) (orE_hit (mkC_at (a := a0) (by intro a b h; first | (exact rfl) | (simp only [INJ, IJ] at h; first | exact h | (simp_all [Prod.ext_iff]) )) h)))) (fun a0 r h => orE_miss (by decide) (orE_next (mkC_none (by intro t h; simp at h)) (orE_next (mkC_none (by intro t h; simp at h)) (orE_hit (mkC_at (a := a0) (by intro a b h; first | (exact rfl) | (simp only [INJ, IJ] at h; first | exact h | (simp_all [Prod.ext_iff]) )) h)))))) h
end Go.Av
