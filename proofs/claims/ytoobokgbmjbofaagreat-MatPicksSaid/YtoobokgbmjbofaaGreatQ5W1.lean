/- The walks of the plain functions. Made by a program of mine. Conditions: none. -/
import Derived.Test.YtoobokgbmjbofaaGreatQ5S
import Derived.Test.YtoobokgbmjbofaaGreatQ5A
import Derived.Test.YtoobokgbmjbofaaGreatProg
set_option linter.unusedVariables false
set_option linter.unusedSimpArgs false
set_option linter.defProp false
set_option maxRecDepth 20000
open Go Go.Proofs
namespace Go.Av
theorem mixed : Tryz.prog.follows .mixedOrders = true := by kernel_rfl
def bodyOf (f : Func) : Code := f.body.getD .skip
theorem tv2 : tview Tryz.prog 2 = some (.int .i64) := by kernel_rfl
theorem ts2 : tsize Tryz.prog 2 = 1 := by kernel_rfl
def pt2 := @ptW _ _ _ tv2 rfl
def st2 := @stW _ _ ts2
theorem tv3 : tview Tryz.prog 3 = some (.int .i64) := by kernel_rfl
theorem ts3 : tsize Tryz.prog 3 = 1 := by kernel_rfl
def pt3 := @ptW _ _ _ tv3 rfl
def st3 := @stW _ _ ts3
theorem tv4 : tview Tryz.prog 4 = some (.bool) := by kernel_rfl
theorem ts4 : tsize Tryz.prog 4 = 1 := by kernel_rfl
def pt4 := @ptW _ _ _ tv4 rfl
def sb4 := @sbW _ _ ts4
theorem tv5 : tview Tryz.prog 5 = some (.int .u8) := by kernel_rfl
theorem ts5 : tsize Tryz.prog 5 = 1 := by kernel_rfl
def pt5 := @ptW _ _ _ tv5 rfl
def st5 := @stW _ _ ts5
theorem tv9 : tview Tryz.prog 9 = some (.str) := by kernel_rfl
theorem ts9 : tsize Tryz.prog 9 = 1 := by kernel_rfl
def pt9 := @ptW _ _ _ tv9 rfl
theorem le9 : ∀ {s : ByteArray}, abuiltin Tryz.prog .len #[9] [.v (.string s)] = some (.v (.int .i64 s.size)) := len_str tv9
theorem ix9 : ∀ {s : ByteArray} {i : Int}, aindex Tryz.prog 9 (.v (.string s)) i = aixS s i := ix_str tv9
theorem tv22 : tview Tryz.prog 22 = some (.slice 24 1 4) := by kernel_rfl
theorem ts22 : tsize Tryz.prog 22 = 1 := by kernel_rfl
def pt22 := @ptW _ _ _ tv22 rfl
def ia22 := @iaW _ _ _ _ _ tv22
def io22 := @ioW _ _ _ _ _ tv22
def le22 := @leW _ _ _ _ _ tv22
theorem tz24 : tzero Tryz.prog 24 = some [.v (.int .u32 0)] := by kernel_rfl
theorem mk22 : ∀ {a b : Int} {k k' : IntKind}, 0 ≤ a → a ≤ b → b ≤ 140737488355328 → b * 4 ≤ 140737488355328 → mkX Tryz.prog 22 (.v (.int k a)) (.v (.int k' b)) = some (.fresh 1 a.toNat (lm (ik .u32) (List.replicate a.toNat 0))) := mk_ik tv22 tz24
def ap22 := @apW _ _ _ _ _ _ tv22 tz24 rfl (by decide)
def bs22 := @bsW _ _ _ _ _ _ tv22 tz24 rfl (by decide)
def sa22 := @saW _ _ ts22
def so22 := @soW _ _ ts22
theorem tv24 : tview Tryz.prog 24 = some (.int .u32) := by kernel_rfl
theorem ts24 : tsize Tryz.prog 24 = 1 := by kernel_rfl
def pt24 := @ptW _ _ _ tv24 rfl
def st24 := @stW _ _ ts24
theorem tv27 : tview Tryz.prog 27 = some (.slice 3 1 8) := by kernel_rfl
theorem ts27 : tsize Tryz.prog 27 = 1 := by kernel_rfl
def pt27 := @ptW _ _ _ tv27 rfl
def ia27 := @iaW _ _ _ _ _ tv27
def io27 := @ioW _ _ _ _ _ tv27
def le27 := @leW _ _ _ _ _ tv27
theorem tz3 : tzero Tryz.prog 3 = some [.v (.int .i64 0)] := by kernel_rfl
theorem mk27 : ∀ {a b : Int} {k k' : IntKind}, 0 ≤ a → a ≤ b → b ≤ 140737488355328 → b * 8 ≤ 140737488355328 → mkX Tryz.prog 27 (.v (.int k a)) (.v (.int k' b)) = some (.fresh 1 a.toNat (lm (ik .i64) (List.replicate a.toNat 0))) := mk_ik tv27 tz3
def ap27 := @apW _ _ _ _ _ _ tv27 tz3 rfl (by decide)
def bs27 := @bsW _ _ _ _ _ _ tv27 tz3 rfl (by decide)
def ao27 := @aoW _ _ _ _ _ tv27
def as27 := @asW _ _ _ _ _ tv27
def sa27 := @saW _ _ ts27
def so27 := @soW _ _ ts27
theorem tv28 : tview Tryz.prog 28 = some (.slice 2 1 8) := by kernel_rfl
theorem ts28 : tsize Tryz.prog 28 = 1 := by kernel_rfl
def pt28 := @ptW _ _ _ tv28 rfl
def ia28 := @iaW _ _ _ _ _ tv28
def io28 := @ioW _ _ _ _ _ tv28
def le28 := @leW _ _ _ _ _ tv28
theorem tz2 : tzero Tryz.prog 2 = some [.v (.int .i64 0)] := by kernel_rfl
def ap28 := @apW _ _ _ _ _ _ tv28 tz2 rfl (by decide)
def bs28 := @bsW _ _ _ _ _ _ tv28 tz2 rfl (by decide)
def sa28 := @saW _ _ ts28
def so28 := @soW _ _ ts28
theorem tv29 : tview Tryz.prog 29 = some (.slice 4 1 1) := by kernel_rfl
theorem ts29 : tsize Tryz.prog 29 = 1 := by kernel_rfl
def pt29 := @ptW _ _ _ tv29 rfl
def ia29 := @iaW _ _ _ _ _ tv29
def io29 := @ioW _ _ _ _ _ tv29
def le29 := @leW _ _ _ _ _ tv29
theorem tz4 : tzero Tryz.prog 4 = some [.v (.bool false)] := by kernel_rfl
def ap29 := @apW _ _ _ _ _ _ tv29 tz4 rfl (by decide)
def bs29 := @bsW _ _ _ _ _ _ tv29 tz4 rfl (by decide)
def sa29 := @saW _ _ ts29
def so29 := @soW _ _ ts29
theorem tv31 : tview Tryz.prog 31 = some (.struct) := by kernel_rfl
theorem ts31 : tsize Tryz.prog 31 = 5 := by kernel_rfl
theorem pt31 : ∀ {xs : List AV} {off : Nat}, part Tryz.prog xs 31 off = if off + 5 ≤ xs.length then some (.agg ((xs.drop off).take 5)) else none := part_struct tv31 ts31
theorem sg31 : ∀ {h : Heap} {id : Id} {off : Nat} {ys : List AV}, ys.length = 5 → stX Tryz.prog 31 h (.ptr id off 0) (.agg ys) = (h.get id).bind (stH Tryz.prog 31 h id off ys) := stX_aggH ts31 (by decide)
theorem tv33 : tview Tryz.prog 33 = some (.struct) := by kernel_rfl
theorem ts33 : tsize Tryz.prog 33 = 36 := by kernel_rfl
theorem pt33 : ∀ {xs : List AV} {off : Nat}, part Tryz.prog xs 33 off = if off + 36 ≤ xs.length then some (.agg ((xs.drop off).take 36)) else none := part_struct tv33 ts33
theorem sg33 : ∀ {h : Heap} {id : Id} {off : Nat} {ys : List AV}, ys.length = 36 → stX Tryz.prog 33 h (.ptr id off 0) (.agg ys) = (h.get id).bind (stH Tryz.prog 33 h id off ys) := stX_aggH ts33 (by decide)
theorem tv34 : tview Tryz.prog 34 = some (.slice 31 5 104) := by kernel_rfl
theorem ts34 : tsize Tryz.prog 34 = 1 := by kernel_rfl
def pt34 := @ptW _ _ _ tv34 rfl
def ia34 := @iaW _ _ _ _ _ tv34
def io34 := @ioW _ _ _ _ _ tv34
def le34 := @leW _ _ _ _ _ tv34
theorem tz31 : tzero Tryz.prog 31 = some [.v (.int .i64 0), .v (.slice none 0 0), .v (.slice none 0 0), .v (.slice none 0 0), .v (.slice none 0 0)] := by kernel_rfl
def ap34 := @apW _ _ _ _ _ _ tv34 tz31 rfl (by decide)
theorem af34 : ∀ {lvl d m : Nat} {h : Heap} {id : Id} {n by_ : Nat} {l b : List T_Tensor}, m = b.length → n + m ≤ 140737488355328 → (n + m) * by_ ≤ 140737488355328 → appI lvl d 5 by_ h m (fm c_T_Tensor b) id n n (.sl true true 5 n (fm c_T_Tensor l)) = some (.own id 0 (n + m) (n + m), h.set id (.sl true true 5 (n + m) (fm c_T_Tensor (l ++ b)))) := fun h1 h2 h3 => appI_fm c_T_Tensor_len h1 h2 h3 (one_fm c_T_Tensor_one)
def bs34 := @bsW _ _ _ _ _ _ tv34 tz31 rfl (by decide)
def sa34 := @saW _ _ ts34
def so34 := @soW _ _ ts34
theorem tv35 : tview Tryz.prog 35 = some (.int .i64) := by kernel_rfl
theorem ts35 : tsize Tryz.prog 35 = 1 := by kernel_rfl
def pt35 := @ptW _ _ _ tv35 rfl
def st35 := @stW _ _ ts35
theorem tv51 : tview Tryz.prog 51 = some (.slice 56 8 144) := by kernel_rfl
theorem ts51 : tsize Tryz.prog 51 = 1 := by kernel_rfl
def pt51 := @ptW _ _ _ tv51 rfl
def ia51 := @iaW _ _ _ _ _ tv51
def io51 := @ioW _ _ _ _ _ tv51
def le51 := @leW _ _ _ _ _ tv51
theorem tz56 : tzero Tryz.prog 56 = some [.v (.int .i64 0), .v (.slice none 0 0), .v (.bool false), .v (.int .i64 0), .v (.slice none 0 0), .v (.slice none 0 0), .v (.slice none 0 0), .v (.slice none 0 0)] := by kernel_rfl
def ap51 := @apW _ _ _ _ _ _ tv51 tz56 rfl (by decide)
theorem af51 : ∀ {lvl d m : Nat} {h : Heap} {id : Id} {n by_ : Nat} {l b : List T_Val}, m = b.length → n + m ≤ 140737488355328 → (n + m) * by_ ≤ 140737488355328 → appI lvl d 8 by_ h m (fm c_T_Val b) id n n (.sl true true 8 n (fm c_T_Val l)) = some (.own id 0 (n + m) (n + m), h.set id (.sl true true 8 (n + m) (fm c_T_Val (l ++ b)))) := fun h1 h2 h3 => appI_fm c_T_Val_len h1 h2 h3 (one_fm c_T_Val_one)
def bs51 := @bsW _ _ _ _ _ _ tv51 tz56 rfl (by decide)
def sa51 := @saW _ _ ts51
def so51 := @soW _ _ ts51
theorem tv56 : tview Tryz.prog 56 = some (.struct) := by kernel_rfl
theorem ts56 : tsize Tryz.prog 56 = 8 := by kernel_rfl
theorem pt56 : ∀ {xs : List AV} {off : Nat}, part Tryz.prog xs 56 off = if off + 8 ≤ xs.length then some (.agg ((xs.drop off).take 8)) else none := part_struct tv56 ts56
theorem sg56 : ∀ {h : Heap} {id : Id} {off : Nat} {ys : List AV}, ys.length = 8 → stX Tryz.prog 56 h (.ptr id off 0) (.agg ys) = (h.get id).bind (stH Tryz.prog 56 h id off ys) := stX_aggH ts56 (by decide)
theorem tv65 : tview Tryz.prog 65 = some (.struct) := by kernel_rfl
theorem ts65 : tsize Tryz.prog 65 = 39 := by kernel_rfl
theorem pt65 : ∀ {xs : List AV} {off : Nat}, part Tryz.prog xs 65 off = if off + 39 ≤ xs.length then some (.agg ((xs.drop off).take 39)) else none := part_struct tv65 ts65
theorem sg65 : ∀ {h : Heap} {id : Id} {off : Nat} {ys : List AV}, ys.length = 39 → stX Tryz.prog 65 h (.ptr id off 0) (.agg ys) = (h.get id).bind (stH Tryz.prog 65 h id off ys) := stX_aggH ts65 (by decide)
theorem tv67 : tview Tryz.prog 67 = some (.slice 27 1 24) := by kernel_rfl
theorem ts67 : tsize Tryz.prog 67 = 1 := by kernel_rfl
def pt67 := @ptW _ _ _ tv67 rfl
def ia67 := @iaW _ _ _ _ _ tv67
def io67 := @ioW _ _ _ _ _ tv67
def le67 := @leW _ _ _ _ _ tv67
theorem tz27 : tzero Tryz.prog 27 = some [.v (.slice none 0 0)] := by kernel_rfl
def bs67 := @bsW _ _ _ _ _ _ tv67 tz27 rfl (by decide)
def sa67 := @saW _ _ ts67
def so67 := @soW _ _ ts67
theorem tv75 : tview Tryz.prog 75 = some (.struct) := by kernel_rfl
theorem ts75 : tsize Tryz.prog 75 = 6 := by kernel_rfl
theorem pt75 : ∀ {xs : List AV} {off : Nat}, part Tryz.prog xs 75 off = if off + 6 ≤ xs.length then some (.agg ((xs.drop off).take 6)) else none := part_struct tv75 ts75
theorem sg75 : ∀ {h : Heap} {id : Id} {off : Nat} {ys : List AV}, ys.length = 6 → stX Tryz.prog 75 h (.ptr id off 0) (.agg ys) = (h.get id).bind (stH Tryz.prog 75 h id off ys) := stX_aggH ts75 (by decide)
theorem tv89 : tview Tryz.prog 89 = some (.int .u64) := by kernel_rfl
theorem ts89 : tsize Tryz.prog 89 = 1 := by kernel_rfl
def pt89 := @ptW _ _ _ tv89 rfl
def st89 := @stW _ _ ts89
theorem tv91 : tview Tryz.prog 91 = some (.struct) := by kernel_rfl
theorem ts91 : tsize Tryz.prog 91 = 5 := by kernel_rfl
theorem pt91 : ∀ {xs : List AV} {off : Nat}, part Tryz.prog xs 91 off = if off + 5 ≤ xs.length then some (.agg ((xs.drop off).take 5)) else none := part_struct tv91 ts91
theorem sg91 : ∀ {h : Heap} {id : Id} {off : Nat} {ys : List AV}, ys.length = 5 → stX Tryz.prog 91 h (.ptr id off 0) (.agg ys) = (h.get id).bind (stH Tryz.prog 91 h id off ys) := stX_aggH ts91 (by decide)
theorem tv119 : tview Tryz.prog 119 = some (.slice 22 1 24) := by kernel_rfl
theorem ts119 : tsize Tryz.prog 119 = 1 := by kernel_rfl
def pt119 := @ptW _ _ _ tv119 rfl
def ia119 := @iaW _ _ _ _ _ tv119
def io119 := @ioW _ _ _ _ _ tv119
def le119 := @leW _ _ _ _ _ tv119
theorem tz22 : tzero Tryz.prog 22 = some [.v (.slice none 0 0)] := by kernel_rfl
def ap119 := @apW _ _ _ _ _ _ tv119 tz22 rfl (by decide)
def bs119 := @bsW _ _ _ _ _ _ tv119 tz22 rfl (by decide)
def sa119 := @saW _ _ ts119
def so119 := @soW _ _ ts119
theorem tv155 : tview Tryz.prog 155 = some (.struct) := by kernel_rfl
theorem ts155 : tsize Tryz.prog 155 = 4 := by kernel_rfl
theorem pt155 : ∀ {xs : List AV} {off : Nat}, part Tryz.prog xs 155 off = if off + 4 ≤ xs.length then some (.agg ((xs.drop off).take 4)) else none := part_struct tv155 ts155
theorem fo31_0 : fieldOf Tryz.prog 31 0 = some (0, 3) := by kernel_rfl
def fp31_0 := @fpW _ _ _ _ _ _ fo31_0 ts3 (by decide)
def fr31_0 := @frW _ _ _ _ _ _ fo31_0 ts3 (by decide)
theorem fo31_1 : fieldOf Tryz.prog 31 1 = some (1, 27) := by kernel_rfl
def fp31_1 := @fpW _ _ _ _ _ _ fo31_1 ts27 (by decide)
def fr31_1 := @frW _ _ _ _ _ _ fo31_1 ts27 (by decide)
theorem fo31_2 : fieldOf Tryz.prog 31 2 = some (2, 22) := by kernel_rfl
def fp31_2 := @fpW _ _ _ _ _ _ fo31_2 ts22 (by decide)
def fr31_2 := @frW _ _ _ _ _ _ fo31_2 ts22 (by decide)
theorem fo31_3 : fieldOf Tryz.prog 31 3 = some (3, 28) := by kernel_rfl
def fp31_3 := @fpW _ _ _ _ _ _ fo31_3 ts28 (by decide)
def fr31_3 := @frW _ _ _ _ _ _ fo31_3 ts28 (by decide)
theorem fo31_4 : fieldOf Tryz.prog 31 4 = some (4, 29) := by kernel_rfl
def fp31_4 := @fpW _ _ _ _ _ _ fo31_4 ts29 (by decide)
def fr31_4 := @frW _ _ _ _ _ _ fo31_4 ts29 (by decide)
theorem fo56_0 : fieldOf Tryz.prog 56 0 = some (0, 3) := by kernel_rfl
def fp56_0 := @fpW _ _ _ _ _ _ fo56_0 ts3 (by decide)
def fr56_0 := @frW _ _ _ _ _ _ fo56_0 ts3 (by decide)
theorem fd56_0 : ∀ {xs : List AV}, fdX Tryz.prog 56 0 (.agg xs) = part Tryz.prog xs 3 0 := fdX_at fo56_0
theorem fo56_1 : fieldOf Tryz.prog 56 1 = some (1, 27) := by kernel_rfl
def fp56_1 := @fpW _ _ _ _ _ _ fo56_1 ts27 (by decide)
def fr56_1 := @frW _ _ _ _ _ _ fo56_1 ts27 (by decide)
theorem fd56_1 : ∀ {xs : List AV}, fdX Tryz.prog 56 1 (.agg xs) = part Tryz.prog xs 27 1 := fdX_at fo56_1
theorem fo56_2 : fieldOf Tryz.prog 56 2 = some (2, 4) := by kernel_rfl
def fp56_2 := @fpW _ _ _ _ _ _ fo56_2 ts4 (by decide)
def fr56_2 := @frW _ _ _ _ _ _ fo56_2 ts4 (by decide)
theorem fo56_3 : fieldOf Tryz.prog 56 3 = some (3, 31) := by kernel_rfl
def fp56_3 := @fpW _ _ _ _ _ _ fo56_3 ts31 (by decide)
def fr56_3 := @frW _ _ _ _ _ _ fo56_3 ts31 (by decide)
theorem fo65_0 : fieldOf Tryz.prog 65 0 = some (0, 3) := by kernel_rfl
def fp65_0 := @fpW _ _ _ _ _ _ fo65_0 ts3 (by decide)
def fr65_0 := @frW _ _ _ _ _ _ fo65_0 ts3 (by decide)
theorem fo65_1 : fieldOf Tryz.prog 65 1 = some (1, 33) := by kernel_rfl
def fp65_1 := @fpW _ _ _ _ _ _ fo65_1 ts33 (by decide)
def fr65_1 := @frW _ _ _ _ _ _ fo65_1 ts33 (by decide)
theorem fo65_2 : fieldOf Tryz.prog 65 2 = some (37, 51) := by kernel_rfl
def fp65_2 := @fpW _ _ _ _ _ _ fo65_2 ts51 (by decide)
def fr65_2 := @frW _ _ _ _ _ _ fo65_2 ts51 (by decide)
theorem fo65_3 : fieldOf Tryz.prog 65 3 = some (38, 3) := by kernel_rfl
def fp65_3 := @fpW _ _ _ _ _ _ fo65_3 ts3 (by decide)
def fr65_3 := @frW _ _ _ _ _ _ fo65_3 ts3 (by decide)
theorem fo75_0 : fieldOf Tryz.prog 75 0 = some (0, 22) := by kernel_rfl
def fp75_0 := @fpW _ _ _ _ _ _ fo75_0 ts22 (by decide)
def fr75_0 := @frW _ _ _ _ _ _ fo75_0 ts22 (by decide)
theorem fo75_1 : fieldOf Tryz.prog 75 1 = some (1, 3) := by kernel_rfl
def fp75_1 := @fpW _ _ _ _ _ _ fo75_1 ts3 (by decide)
def fr75_1 := @frW _ _ _ _ _ _ fo75_1 ts3 (by decide)
theorem fo75_2 : fieldOf Tryz.prog 75 2 = some (2, 3) := by kernel_rfl
def fp75_2 := @fpW _ _ _ _ _ _ fo75_2 ts3 (by decide)
def fr75_2 := @frW _ _ _ _ _ _ fo75_2 ts3 (by decide)
theorem fo75_3 : fieldOf Tryz.prog 75 3 = some (3, 3) := by kernel_rfl
def fp75_3 := @fpW _ _ _ _ _ _ fo75_3 ts3 (by decide)
def fr75_3 := @frW _ _ _ _ _ _ fo75_3 ts3 (by decide)
theorem fo75_4 : fieldOf Tryz.prog 75 4 = some (4, 3) := by kernel_rfl
def fp75_4 := @fpW _ _ _ _ _ _ fo75_4 ts3 (by decide)
def fr75_4 := @frW _ _ _ _ _ _ fo75_4 ts3 (by decide)
theorem fo75_5 : fieldOf Tryz.prog 75 5 = some (5, 3) := by kernel_rfl
def fp75_5 := @fpW _ _ _ _ _ _ fo75_5 ts3 (by decide)
def fr75_5 := @frW _ _ _ _ _ _ fo75_5 ts3 (by decide)
theorem fo91_0 : fieldOf Tryz.prog 91 0 = some (0, 4) := by kernel_rfl
def fp91_0 := @fpW _ _ _ _ _ _ fo91_0 ts4 (by decide)
def fr91_0 := @frW _ _ _ _ _ _ fo91_0 ts4 (by decide)
theorem fo91_1 : fieldOf Tryz.prog 91 1 = some (1, 4) := by kernel_rfl
def fp91_1 := @fpW _ _ _ _ _ _ fo91_1 ts4 (by decide)
def fr91_1 := @frW _ _ _ _ _ _ fo91_1 ts4 (by decide)
theorem fo91_2 : fieldOf Tryz.prog 91 2 = some (2, 4) := by kernel_rfl
def fp91_2 := @fpW _ _ _ _ _ _ fo91_2 ts4 (by decide)
def fr91_2 := @frW _ _ _ _ _ _ fo91_2 ts4 (by decide)
theorem fo91_3 : fieldOf Tryz.prog 91 3 = some (3, 3) := by kernel_rfl
def fp91_3 := @fpW _ _ _ _ _ _ fo91_3 ts3 (by decide)
def fr91_3 := @frW _ _ _ _ _ _ fo91_3 ts3 (by decide)
theorem fo91_4 : fieldOf Tryz.prog 91 4 = some (4, 89) := by kernel_rfl
def fp91_4 := @fpW _ _ _ _ _ _ fo91_4 ts89 (by decide)
def fr91_4 := @frW _ _ _ _ _ _ fo91_4 ts89 (by decide)
theorem fo155_0 : fieldOf Tryz.prog 155 0 = some (0, 22) := by kernel_rfl
def fp155_0 := @fpW _ _ _ _ _ _ fo155_0 ts22 (by decide)
def fr155_0 := @frW _ _ _ _ _ _ fo155_0 ts22 (by decide)
theorem fo155_1 : fieldOf Tryz.prog 155 1 = some (1, 3) := by kernel_rfl
def fp155_1 := @fpW _ _ _ _ _ _ fo155_1 ts3 (by decide)
def fr155_1 := @frW _ _ _ _ _ _ fo155_1 ts3 (by decide)
theorem fo155_2 : fieldOf Tryz.prog 155 2 = some (2, 3) := by kernel_rfl
def fp155_2 := @fpW _ _ _ _ _ _ fo155_2 ts3 (by decide)
def fr155_2 := @frW _ _ _ _ _ _ fo155_2 ts3 (by decide)
theorem fo155_3 : fieldOf Tryz.prog 155 3 = some (3, 3) := by kernel_rfl
def fp155_3 := @fpW _ _ _ _ _ _ fo155_3 ts3 (by decide)
def fr155_3 := @frW _ _ _ _ _ _ fo155_3 ts3 (by decide)
def bl31 := @blW _ _ _ tz31 tv31
theorem fl31_0 : flP Tryz.prog 31 0 = some (0, 1) := @flW _ _ _ _ _ _ fo31_0 ts3
theorem fl31_1 : flP Tryz.prog 31 1 = some (1, 1) := @flW _ _ _ _ _ _ fo31_1 ts27
theorem fl31_2 : flP Tryz.prog 31 2 = some (2, 1) := @flW _ _ _ _ _ _ fo31_2 ts22
theorem fl31_3 : flP Tryz.prog 31 3 = some (3, 1) := @flW _ _ _ _ _ _ fo31_3 ts28
theorem fl31_4 : flP Tryz.prog 31 4 = some (4, 1) := @flW _ _ _ _ _ _ fo31_4 ts29
theorem tz33 : tzero Tryz.prog 33 = some [.v (.int .i64 0), .v (.slice none 0 0), .v (.bool false), .v (.bool false), .v (.bool false), .v (.bool false), .v (.bool false), .v (.slice none 0 0), .v (.bool false), .v (.int .u32 0), .v (.int .u32 0), .v (.int .u32 0), .v (.bool false), .v (.bool false), .v (.bool false), .v (.int .i64 0), .v (.int .i64 0), .v (.bool false), .v (.bool false), .v (.int .i64 0), .v (.slice none 0 0), .v (.slice none 0 0), .v (.slice none 0 0), .v (.slice none 0 0), .v (.int .i64 0), .v (.bool false), .v (.bool false), .v (.int .i64 0), .v (.int .i64 0), .v (.int .i64 0), .v (.bool false), .v (.int .i64 0), .v (.slice none 0 0), .v (.slice none 0 0), .v (.slice none 0 0), .v (.slice none 0 0)] := by kernel_rfl
def bl33 := @blW _ _ _ tz33 tv33
def bl56 := @blW _ _ _ tz56 tv56
theorem fl56_0 : flP Tryz.prog 56 0 = some (0, 1) := @flW _ _ _ _ _ _ fo56_0 ts3
theorem fl56_1 : flP Tryz.prog 56 1 = some (1, 1) := @flW _ _ _ _ _ _ fo56_1 ts27
theorem fl56_2 : flP Tryz.prog 56 2 = some (2, 1) := @flW _ _ _ _ _ _ fo56_2 ts4
theorem fl56_3 : flP Tryz.prog 56 3 = some (3, 5) := @flW _ _ _ _ _ _ fo56_3 ts31
theorem tz65 : tzero Tryz.prog 65 = some [.v (.int .i64 0), .v (.int .i64 0), .v (.slice none 0 0), .v (.bool false), .v (.bool false), .v (.bool false), .v (.bool false), .v (.bool false), .v (.slice none 0 0), .v (.bool false), .v (.int .u32 0), .v (.int .u32 0), .v (.int .u32 0), .v (.bool false), .v (.bool false), .v (.bool false), .v (.int .i64 0), .v (.int .i64 0), .v (.bool false), .v (.bool false), .v (.int .i64 0), .v (.slice none 0 0), .v (.slice none 0 0), .v (.slice none 0 0), .v (.slice none 0 0), .v (.int .i64 0), .v (.bool false), .v (.bool false), .v (.int .i64 0), .v (.int .i64 0), .v (.int .i64 0), .v (.bool false), .v (.int .i64 0), .v (.slice none 0 0), .v (.slice none 0 0), .v (.slice none 0 0), .v (.slice none 0 0), .v (.slice none 0 0), .v (.int .i64 0)] := by kernel_rfl
def bl65 := @blW _ _ _ tz65 tv65
theorem fl65_0 : flP Tryz.prog 65 0 = some (0, 1) := @flW _ _ _ _ _ _ fo65_0 ts3
theorem fl65_1 : flP Tryz.prog 65 1 = some (1, 36) := @flW _ _ _ _ _ _ fo65_1 ts33
theorem fl65_2 : flP Tryz.prog 65 2 = some (37, 1) := @flW _ _ _ _ _ _ fo65_2 ts51
theorem fl65_3 : flP Tryz.prog 65 3 = some (38, 1) := @flW _ _ _ _ _ _ fo65_3 ts3
theorem tz75 : tzero Tryz.prog 75 = some [.v (.slice none 0 0), .v (.int .i64 0), .v (.int .i64 0), .v (.int .i64 0), .v (.int .i64 0), .v (.int .i64 0)] := by kernel_rfl
def bl75 := @blW _ _ _ tz75 tv75
theorem fl75_0 : flP Tryz.prog 75 0 = some (0, 1) := @flW _ _ _ _ _ _ fo75_0 ts22
theorem fl75_1 : flP Tryz.prog 75 1 = some (1, 1) := @flW _ _ _ _ _ _ fo75_1 ts3
theorem fl75_2 : flP Tryz.prog 75 2 = some (2, 1) := @flW _ _ _ _ _ _ fo75_2 ts3
theorem fl75_3 : flP Tryz.prog 75 3 = some (3, 1) := @flW _ _ _ _ _ _ fo75_3 ts3
theorem fl75_4 : flP Tryz.prog 75 4 = some (4, 1) := @flW _ _ _ _ _ _ fo75_4 ts3
theorem fl75_5 : flP Tryz.prog 75 5 = some (5, 1) := @flW _ _ _ _ _ _ fo75_5 ts3
theorem tz91 : tzero Tryz.prog 91 = some [.v (.bool false), .v (.bool false), .v (.bool false), .v (.int .i64 0), .v (.int .u64 0)] := by kernel_rfl
def bl91 := @blW _ _ _ tz91 tv91
theorem fl91_0 : flP Tryz.prog 91 0 = some (0, 1) := @flW _ _ _ _ _ _ fo91_0 ts4
theorem fl91_1 : flP Tryz.prog 91 1 = some (1, 1) := @flW _ _ _ _ _ _ fo91_1 ts4
theorem fl91_2 : flP Tryz.prog 91 2 = some (2, 1) := @flW _ _ _ _ _ _ fo91_2 ts4
theorem fl91_3 : flP Tryz.prog 91 3 = some (3, 1) := @flW _ _ _ _ _ _ fo91_3 ts3
theorem fl91_4 : flP Tryz.prog 91 4 = some (4, 1) := @flW _ _ _ _ _ _ fo91_4 ts89
theorem tz155 : tzero Tryz.prog 155 = some [.v (.slice none 0 0), .v (.int .i64 0), .v (.int .i64 0), .v (.int .i64 0)] := by kernel_rfl
def bl155 := @blW _ _ _ tz155 tv155
theorem fl155_0 : flP Tryz.prog 155 0 = some (0, 1) := @flW _ _ _ _ _ _ fo155_0 ts22
theorem fl155_1 : flP Tryz.prog 155 1 = some (1, 1) := @flW _ _ _ _ _ _ fo155_1 ts3
theorem fl155_2 : flP Tryz.prog 155 2 = some (2, 1) := @flW _ _ _ _ _ _ fo155_2 ts3
theorem fl155_3 : flP Tryz.prog 155 3 = some (3, 1) := @flW _ _ _ _ _ _ fo155_3 ts3
def al22 := @alW _ _ _ tz22
def aq22 := @aqW _ _ _ tz22
def al31 := @alW _ _ _ tz31
def aq31 := @aqW _ _ _ tz31
def al33 := @alW _ _ _ tz33
def aq33 := @aqW _ _ _ tz33
def al56 := @alW _ _ _ tz56
def aq56 := @aqW _ _ _ tz56
def al65 := @alW _ _ _ tz65
def aq65 := @aqW _ _ _ tz65
def al75 := @alW _ _ _ tz75
def aq75 := @aqW _ _ _ tz75
def al91 := @alW _ _ _ tz91
def aq91 := @aqW _ _ _ tz91
theorem ab4 : ∀ {op : BinOp} {a b : Bool}, abin Tryz.prog op 4 (.v (.bool a)) (.v (.bool b)) = abinB op a b := abin_bool tv4
theorem cv3_89 : ∀ {k' : IntKind} {z : Int}, cvX Tryz.prog 3 89 (.v (.int k' z)) = some (.v (.int .u64 (wk .u64 z))) := cvX_at tv3 tv89
theorem cv5_3 : ∀ {k' : IntKind} {z : Int}, cvX Tryz.prog 5 3 (.v (.int k' z)) = some (.v (.int .i64 (wk .i64 z))) := cvX_at tv5 tv3
theorem cv24_3 : ∀ {k' : IntKind} {z : Int}, cvX Tryz.prog 24 3 (.v (.int k' z)) = some (.v (.int .i64 (wk .i64 z))) := cvX_at tv24 tv3
theorem cv24_89 : ∀ {k' : IntKind} {z : Int}, cvX Tryz.prog 24 89 (.v (.int k' z)) = some (.v (.int .u64 (wk .u64 z))) := cvX_at tv24 tv89
theorem cv89_5 : ∀ {k' : IntKind} {z : Int}, cvX Tryz.prog 89 5 (.v (.int k' z)) = some (.v (.int .u8 (wk .u8 z))) := cvX_at tv89 tv5
theorem cv89_24 : ∀ {k' : IntKind} {z : Int}, cvX Tryz.prog 89 24 (.v (.int k' z)) = some (.v (.int .u32 (wk .u32 z))) := cvX_at tv89 tv24
theorem sc22 : sliceCells Tryz.prog 4 22 = [2] := by kernel_rfl
theorem ty22 : typed Tryz.prog 22 (.v (.slice none 0 0)) = .fresh 1 0 [] := ty_nil sc22
theorem sc27 : sliceCells Tryz.prog 4 27 = [2] := by kernel_rfl
theorem ty27 : typed Tryz.prog 27 (.v (.slice none 0 0)) = .fresh 1 0 [] := ty_nil sc27
theorem sc28 : sliceCells Tryz.prog 4 28 = [2] := by kernel_rfl
theorem ty28 : typed Tryz.prog 28 (.v (.slice none 0 0)) = .fresh 1 0 [] := ty_nil sc28
theorem sc29 : sliceCells Tryz.prog 4 29 = [2] := by kernel_rfl
theorem ty29 : typed Tryz.prog 29 (.v (.slice none 0 0)) = .fresh 1 0 [] := ty_nil sc29
theorem sc31 : sliceCells Tryz.prog 4 31 = [0, 2, 2, 2, 2] := by kernel_rfl
theorem ty31 : ∀ {xs : List AV}, typed Tryz.prog 31 (.agg xs) = .agg (nilNew xs [0, 2, 2, 2, 2]) := ty_agg sc31
theorem sc51 : sliceCells Tryz.prog 4 51 = [9] := by kernel_rfl
theorem ty51 : typed Tryz.prog 51 (.v (.slice none 0 0)) = .fresh 8 0 [] := ty_nil sc51
theorem sc56 : sliceCells Tryz.prog 4 56 = [0, 2, 0, 0, 2, 2, 2, 2] := by kernel_rfl
theorem ty56 : ∀ {xs : List AV}, typed Tryz.prog 56 (.agg xs) = .agg (nilNew xs [0, 2, 0, 0, 2, 2, 2, 2]) := ty_agg sc56
theorem sc67 : sliceCells Tryz.prog 4 67 = [2] := by kernel_rfl
theorem ty67 : typed Tryz.prog 67 (.v (.slice none 0 0)) = .fresh 1 0 [] := ty_nil sc67
theorem sc91 : sliceCells Tryz.prog 4 91 = [0, 0, 0, 0, 0] := by kernel_rfl
theorem ty91 : ∀ {xs : List AV}, typed Tryz.prog 91 (.agg xs) = .agg (nilNew xs [0, 0, 0, 0, 0]) := ty_agg sc91
theorem c_T_Tensor_at {x : T_Tensor} : c_T_Tensor x = [.v (.int .i64 x.fType), .arr x.fDims.length (lm (ik .i64) x.fDims), .arr x.fF.length (lm (ik .u32) x.fF), .arr x.fI.length (lm (ik .i64) x.fI), .arr x.fB.length (lm (bk) x.fB)] := rfl
theorem c_T_Setting_at {x : T_Setting} : c_T_Setting x = [.v (.int .i64 x.fAxis), .arr x.fAxes.length (lm (ik .i64) x.fAxes), .v (.bool x.fHasAxes), .v (.bool x.fKeep), .v (.bool x.fNoop), .v (.bool x.fLast), .v (.bool x.fZero), .arr x.fPerm.length (lm (ik .i64) x.fPerm), .v (.bool x.fHasPerm), .v (.int .u32 x.fAlpha), .v (.int .u32 x.fBeta), .v (.int .u32 x.fEpsilon), .v (.bool x.fLow), .v (.bool x.fHigh), .v (.bool x.fFmod), .v (.int .i64 x.fTo), .v (.int .i64 x.fMode), .v (.bool x.fTransA), .v (.bool x.fTransB), .v (.int .i64 x.fGroup), .arr x.fKernel.length (lm (ik .i64) x.fKernel), .arr x.fStrides.length (lm (ik .i64) x.fStrides), .arr x.fPads.length (lm (ik .i64) x.fPads), .arr x.fDilations.length (lm (ik .i64) x.fDilations), .v (.int .i64 x.fAuto), .v (.bool x.fCeil), .v (.bool x.fCount), .v (.int .i64 x.fBlock), .v (.int .i64 x.fStart), .v (.int .i64 x.fEnd), .v (.bool x.fHasEnd), .v (.int .i64 x.fValue.fType), .arr x.fValue.fDims.length (lm (ik .i64) x.fValue.fDims), .arr x.fValue.fF.length (lm (ik .u32) x.fValue.fF), .arr x.fValue.fI.length (lm (ik .i64) x.fValue.fI), .arr x.fValue.fB.length (lm (bk) x.fValue.fB)] := rfl
theorem c_T_Val_at {x : T_Val} : c_T_Val x = [.v (.int .i64 x.fType), .arr x.fDims.length (lm (ik .i64) x.fDims), .v (.bool x.fConst), .v (.int .i64 x.fT.fType), .arr x.fT.fDims.length (lm (ik .i64) x.fT.fDims), .arr x.fT.fF.length (lm (ik .u32) x.fT.fF), .arr x.fT.fI.length (lm (ik .i64) x.fT.fI), .arr x.fT.fB.length (lm (bk) x.fT.fB)] := rfl
theorem c_T_infer_ask_at {x : T_infer_ask} : c_T_infer_ask x = [.v (.int .i64 x.fop), .v (.int .i64 x.fs.fAxis), .arr x.fs.fAxes.length (lm (ik .i64) x.fs.fAxes), .v (.bool x.fs.fHasAxes), .v (.bool x.fs.fKeep), .v (.bool x.fs.fNoop), .v (.bool x.fs.fLast), .v (.bool x.fs.fZero), .arr x.fs.fPerm.length (lm (ik .i64) x.fs.fPerm), .v (.bool x.fs.fHasPerm), .v (.int .u32 x.fs.fAlpha), .v (.int .u32 x.fs.fBeta), .v (.int .u32 x.fs.fEpsilon), .v (.bool x.fs.fLow), .v (.bool x.fs.fHigh), .v (.bool x.fs.fFmod), .v (.int .i64 x.fs.fTo), .v (.int .i64 x.fs.fMode), .v (.bool x.fs.fTransA), .v (.bool x.fs.fTransB), .v (.int .i64 x.fs.fGroup), .arr x.fs.fKernel.length (lm (ik .i64) x.fs.fKernel), .arr x.fs.fStrides.length (lm (ik .i64) x.fs.fStrides), .arr x.fs.fPads.length (lm (ik .i64) x.fs.fPads), .arr x.fs.fDilations.length (lm (ik .i64) x.fs.fDilations), .v (.int .i64 x.fs.fAuto), .v (.bool x.fs.fCeil), .v (.bool x.fs.fCount), .v (.int .i64 x.fs.fBlock), .v (.int .i64 x.fs.fStart), .v (.int .i64 x.fs.fEnd), .v (.bool x.fs.fHasEnd), .v (.int .i64 x.fs.fValue.fType), .arr x.fs.fValue.fDims.length (lm (ik .i64) x.fs.fValue.fDims), .arr x.fs.fValue.fF.length (lm (ik .u32) x.fs.fValue.fF), .arr x.fs.fValue.fI.length (lm (ik .i64) x.fs.fValue.fI), .arr x.fs.fValue.fB.length (lm (bk) x.fs.fValue.fB), .arr x.fin.length (fm c_T_Val x.fin), .v (.int .i64 x.fouts)] := rfl
theorem c_T_mat_grid_at {x : T_mat_grid} : c_T_mat_grid x = [.arr x.fl.length (lm (ik .u32) x.fl), .v (.int .i64 x.fat), .v (.int .i64 x.frow), .v (.int .i64 x.fcol), .v (.int .i64 x.frows), .v (.int .i64 x.fcolumns)] := rfl
theorem c_T_mat_line_uint32_at {x : T_mat_line_uint32} : c_T_mat_line_uint32 x = [.arr x.fl.length (lm (ik .u32) x.fl), .v (.int .i64 x.ffirst), .v (.int .i64 x.fstride), .v (.int .i64 x.fn)] := rfl
theorem c_T_soft_number_at {x : T_soft_number} : c_T_soft_number x = [.v (.bool x.fneg), .v (.bool x.fnan), .v (.bool x.finf), .v (.int .i64 x.fexp), .v (.int .u64 x.fsig)] := rfl
theorem c_T_Tensor_inj : Inj c_T_Tensor := by
  intro a b h
  obtain ⟨a0, a1, a2, a3, a4⟩ := a
  obtain ⟨b0, b1, b2, b3, b4⟩ := b
  simp only [c_T_Tensor_at, INJ] at h
  simp_all
theorem c_T_Setting_inj : Inj c_T_Setting := by
  intro a b h
  obtain ⟨a0, a1, a2, a3, a4, a5, a6, a7, a8, a9, a10, a11, a12, a13, a14, a15, a16, a17, a18, a19, a20, a21, a22, a23, a24, a25, a26, a27, a28, a29, a30, ⟨a_310, a_311, a_312, a_313, a_314⟩⟩ := a
  obtain ⟨b0, b1, b2, b3, b4, b5, b6, b7, b8, b9, b10, b11, b12, b13, b14, b15, b16, b17, b18, b19, b20, b21, b22, b23, b24, b25, b26, b27, b28, b29, b30, ⟨b_310, b_311, b_312, b_313, b_314⟩⟩ := b
  simp only [c_T_Setting_at, INJ, @c_inj_iff _ _ c_T_Tensor_inj, @lm_inj_iff _ _ (inj_avf (inj_fm c_T_Tensor_len (by decide) c_T_Tensor_inj)), @fm_inj_iff _ _ (inj_fm c_T_Tensor_len (by decide) c_T_Tensor_inj)] at h
  simp_all
theorem c_T_Val_inj : Inj c_T_Val := by
  intro a b h
  obtain ⟨a0, a1, a2, ⟨a_30, a_31, a_32, a_33, a_34⟩⟩ := a
  obtain ⟨b0, b1, b2, ⟨b_30, b_31, b_32, b_33, b_34⟩⟩ := b
  simp only [c_T_Val_at, INJ, @c_inj_iff _ _ c_T_Tensor_inj, @lm_inj_iff _ _ (inj_avf (inj_fm c_T_Tensor_len (by decide) c_T_Tensor_inj)), @fm_inj_iff _ _ (inj_fm c_T_Tensor_len (by decide) c_T_Tensor_inj), @c_inj_iff _ _ c_T_Setting_inj, @lm_inj_iff _ _ (inj_avf (inj_fm c_T_Setting_len (by decide) c_T_Setting_inj)), @fm_inj_iff _ _ (inj_fm c_T_Setting_len (by decide) c_T_Setting_inj)] at h
  simp_all
theorem c_T_infer_ask_inj : Inj c_T_infer_ask := by
  intro a b h
  obtain ⟨a0, ⟨a_10, a_11, a_12, a_13, a_14, a_15, a_16, a_17, a_18, a_19, a_110, a_111, a_112, a_113, a_114, a_115, a_116, a_117, a_118, a_119, a_120, a_121, a_122, a_123, a_124, a_125, a_126, a_127, a_128, a_129, a_130, ⟨a_1_310, a_1_311, a_1_312, a_1_313, a_1_314⟩⟩, a2, a3⟩ := a
  obtain ⟨b0, ⟨b_10, b_11, b_12, b_13, b_14, b_15, b_16, b_17, b_18, b_19, b_110, b_111, b_112, b_113, b_114, b_115, b_116, b_117, b_118, b_119, b_120, b_121, b_122, b_123, b_124, b_125, b_126, b_127, b_128, b_129, b_130, ⟨b_1_310, b_1_311, b_1_312, b_1_313, b_1_314⟩⟩, b2, b3⟩ := b
  simp only [c_T_infer_ask_at, INJ, @c_inj_iff _ _ c_T_Tensor_inj, @lm_inj_iff _ _ (inj_avf (inj_fm c_T_Tensor_len (by decide) c_T_Tensor_inj)), @fm_inj_iff _ _ (inj_fm c_T_Tensor_len (by decide) c_T_Tensor_inj), @c_inj_iff _ _ c_T_Setting_inj, @lm_inj_iff _ _ (inj_avf (inj_fm c_T_Setting_len (by decide) c_T_Setting_inj)), @fm_inj_iff _ _ (inj_fm c_T_Setting_len (by decide) c_T_Setting_inj), @c_inj_iff _ _ c_T_Val_inj, @lm_inj_iff _ _ (inj_avf (inj_fm c_T_Val_len (by decide) c_T_Val_inj)), @fm_inj_iff _ _ (inj_fm c_T_Val_len (by decide) c_T_Val_inj)] at h
  simp_all
theorem c_T_mat_grid_inj : Inj c_T_mat_grid := by
  intro a b h
  obtain ⟨a0, a1, a2, a3, a4, a5⟩ := a
  obtain ⟨b0, b1, b2, b3, b4, b5⟩ := b
  simp only [c_T_mat_grid_at, INJ, @c_inj_iff _ _ c_T_Tensor_inj, @lm_inj_iff _ _ (inj_avf (inj_fm c_T_Tensor_len (by decide) c_T_Tensor_inj)), @fm_inj_iff _ _ (inj_fm c_T_Tensor_len (by decide) c_T_Tensor_inj), @c_inj_iff _ _ c_T_Setting_inj, @lm_inj_iff _ _ (inj_avf (inj_fm c_T_Setting_len (by decide) c_T_Setting_inj)), @fm_inj_iff _ _ (inj_fm c_T_Setting_len (by decide) c_T_Setting_inj), @c_inj_iff _ _ c_T_Val_inj, @lm_inj_iff _ _ (inj_avf (inj_fm c_T_Val_len (by decide) c_T_Val_inj)), @fm_inj_iff _ _ (inj_fm c_T_Val_len (by decide) c_T_Val_inj), @c_inj_iff _ _ c_T_infer_ask_inj, @lm_inj_iff _ _ (inj_avf (inj_fm c_T_infer_ask_len (by decide) c_T_infer_ask_inj)), @fm_inj_iff _ _ (inj_fm c_T_infer_ask_len (by decide) c_T_infer_ask_inj)] at h
  simp_all
theorem c_T_mat_line_uint32_inj : Inj c_T_mat_line_uint32 := by
  intro a b h
  obtain ⟨a0, a1, a2, a3⟩ := a
  obtain ⟨b0, b1, b2, b3⟩ := b
  simp only [c_T_mat_line_uint32_at, INJ, @c_inj_iff _ _ c_T_Tensor_inj, @lm_inj_iff _ _ (inj_avf (inj_fm c_T_Tensor_len (by decide) c_T_Tensor_inj)), @fm_inj_iff _ _ (inj_fm c_T_Tensor_len (by decide) c_T_Tensor_inj), @c_inj_iff _ _ c_T_Setting_inj, @lm_inj_iff _ _ (inj_avf (inj_fm c_T_Setting_len (by decide) c_T_Setting_inj)), @fm_inj_iff _ _ (inj_fm c_T_Setting_len (by decide) c_T_Setting_inj), @c_inj_iff _ _ c_T_Val_inj, @lm_inj_iff _ _ (inj_avf (inj_fm c_T_Val_len (by decide) c_T_Val_inj)), @fm_inj_iff _ _ (inj_fm c_T_Val_len (by decide) c_T_Val_inj), @c_inj_iff _ _ c_T_infer_ask_inj, @lm_inj_iff _ _ (inj_avf (inj_fm c_T_infer_ask_len (by decide) c_T_infer_ask_inj)), @fm_inj_iff _ _ (inj_fm c_T_infer_ask_len (by decide) c_T_infer_ask_inj), @c_inj_iff _ _ c_T_mat_grid_inj, @lm_inj_iff _ _ (inj_avf (inj_fm c_T_mat_grid_len (by decide) c_T_mat_grid_inj)), @fm_inj_iff _ _ (inj_fm c_T_mat_grid_len (by decide) c_T_mat_grid_inj)] at h
  simp_all
theorem c_T_soft_number_inj : Inj c_T_soft_number := by
  intro a b h
  obtain ⟨a0, a1, a2, a3, a4⟩ := a
  obtain ⟨b0, b1, b2, b3, b4⟩ := b
  simp only [c_T_soft_number_at, INJ, @c_inj_iff _ _ c_T_Tensor_inj, @lm_inj_iff _ _ (inj_avf (inj_fm c_T_Tensor_len (by decide) c_T_Tensor_inj)), @fm_inj_iff _ _ (inj_fm c_T_Tensor_len (by decide) c_T_Tensor_inj), @c_inj_iff _ _ c_T_Setting_inj, @lm_inj_iff _ _ (inj_avf (inj_fm c_T_Setting_len (by decide) c_T_Setting_inj)), @fm_inj_iff _ _ (inj_fm c_T_Setting_len (by decide) c_T_Setting_inj), @c_inj_iff _ _ c_T_Val_inj, @lm_inj_iff _ _ (inj_avf (inj_fm c_T_Val_len (by decide) c_T_Val_inj)), @fm_inj_iff _ _ (inj_fm c_T_Val_len (by decide) c_T_Val_inj), @c_inj_iff _ _ c_T_infer_ask_inj, @lm_inj_iff _ _ (inj_avf (inj_fm c_T_infer_ask_len (by decide) c_T_infer_ask_inj)), @fm_inj_iff _ _ (inj_fm c_T_infer_ask_len (by decide) c_T_infer_ask_inj), @c_inj_iff _ _ c_T_mat_grid_inj, @lm_inj_iff _ _ (inj_avf (inj_fm c_T_mat_grid_len (by decide) c_T_mat_grid_inj)), @fm_inj_iff _ _ (inj_fm c_T_mat_grid_len (by decide) c_T_mat_grid_inj), @c_inj_iff _ _ c_T_mat_line_uint32_inj, @lm_inj_iff _ _ (inj_avf (inj_fm c_T_mat_line_uint32_len (by decide) c_T_mat_line_uint32_inj)), @fm_inj_iff _ _ (inj_fm c_T_mat_line_uint32_len (by decide) c_T_mat_line_uint32_inj)] at h
  simp_all
def TT0 := And.intro @ts2 <| And.intro @pt2 <| And.intro @st2 <| And.intro @ts3 <| And.intro @pt3 <| And.intro @st3 <| And.intro @ts4 <| And.intro @pt4 <| And.intro @sb4 <| And.intro @ts5 <| And.intro @pt5 <| And.intro @st5 <| And.intro @ts9 <| And.intro @pt9 <| And.intro @le9 <| And.intro @ix9 <| And.intro @ts22 <| And.intro @pt22 <| And.intro @ia22 <| And.intro @io22 <| And.intro @le22 <| And.intro @mk22 <| And.intro @ap22 <| And.intro @bs22 <| And.intro @sa22 <| And.intro @so22 <| And.intro @ts24 <| And.intro @pt24 <| And.intro @st24 <| And.intro @ts27 <| And.intro @pt27 <| And.intro @ia27 <| And.intro @io27 <| And.intro @le27 <| And.intro @mk27 <| And.intro @ap27 <| And.intro @bs27 <| And.intro @ao27 <| And.intro @as27 <| @sa27
def TT1 := And.intro @so27 <| And.intro @ts28 <| And.intro @pt28 <| And.intro @ia28 <| And.intro @io28 <| And.intro @le28 <| And.intro @ap28 <| And.intro @bs28 <| And.intro @sa28 <| And.intro @so28 <| And.intro @ts29 <| And.intro @pt29 <| And.intro @ia29 <| And.intro @io29 <| And.intro @le29 <| And.intro @ap29 <| And.intro @bs29 <| And.intro @sa29 <| And.intro @so29 <| And.intro @ts31 <| And.intro @pt31 <| And.intro @sg31 <| And.intro @ts33 <| And.intro @pt33 <| And.intro @sg33 <| And.intro @ts34 <| And.intro @pt34 <| And.intro @ia34 <| And.intro @io34 <| And.intro @le34 <| And.intro @ap34 <| And.intro @af34 <| And.intro @bs34 <| And.intro @sa34 <| And.intro @so34 <| And.intro @ts35 <| And.intro @pt35 <| And.intro @st35 <| And.intro @ts51 <| @pt51
def TT2 := And.intro @ia51 <| And.intro @io51 <| And.intro @le51 <| And.intro @ap51 <| And.intro @af51 <| And.intro @bs51 <| And.intro @sa51 <| And.intro @so51 <| And.intro @ts56 <| And.intro @pt56 <| And.intro @sg56 <| And.intro @ts65 <| And.intro @pt65 <| And.intro @sg65 <| And.intro @ts67 <| And.intro @pt67 <| And.intro @ia67 <| And.intro @io67 <| And.intro @le67 <| And.intro @bs67 <| And.intro @sa67 <| And.intro @so67 <| And.intro @ts75 <| And.intro @pt75 <| And.intro @sg75 <| And.intro @ts89 <| And.intro @pt89 <| And.intro @st89 <| And.intro @ts91 <| And.intro @pt91 <| And.intro @sg91 <| And.intro @ts119 <| And.intro @pt119 <| And.intro @ia119 <| And.intro @io119 <| And.intro @le119 <| And.intro @ap119 <| And.intro @bs119 <| And.intro @sa119 <| @so119
def TT3 := And.intro @ts155 <| And.intro @pt155 <| And.intro @fo31_0 <| And.intro @fp31_0 <| And.intro @fr31_0 <| And.intro @fo31_1 <| And.intro @fp31_1 <| And.intro @fr31_1 <| And.intro @fo31_2 <| And.intro @fp31_2 <| And.intro @fr31_2 <| And.intro @fo31_3 <| And.intro @fp31_3 <| And.intro @fr31_3 <| And.intro @fo31_4 <| And.intro @fp31_4 <| And.intro @fr31_4 <| And.intro @fo56_0 <| And.intro @fp56_0 <| And.intro @fr56_0 <| And.intro @fd56_0 <| And.intro @fo56_1 <| And.intro @fp56_1 <| And.intro @fr56_1 <| And.intro @fd56_1 <| And.intro @fo56_2 <| And.intro @fp56_2 <| And.intro @fr56_2 <| And.intro @fo56_3 <| And.intro @fp56_3 <| And.intro @fr56_3 <| And.intro @fo65_0 <| And.intro @fp65_0 <| And.intro @fr65_0 <| And.intro @fo65_1 <| And.intro @fp65_1 <| And.intro @fr65_1 <| And.intro @fo65_2 <| And.intro @fp65_2 <| @fr65_2
def TT4 := And.intro @fo65_3 <| And.intro @fp65_3 <| And.intro @fr65_3 <| And.intro @fo75_0 <| And.intro @fp75_0 <| And.intro @fr75_0 <| And.intro @fo75_1 <| And.intro @fp75_1 <| And.intro @fr75_1 <| And.intro @fo75_2 <| And.intro @fp75_2 <| And.intro @fr75_2 <| And.intro @fo75_3 <| And.intro @fp75_3 <| And.intro @fr75_3 <| And.intro @fo75_4 <| And.intro @fp75_4 <| And.intro @fr75_4 <| And.intro @fo75_5 <| And.intro @fp75_5 <| And.intro @fr75_5 <| And.intro @fo91_0 <| And.intro @fp91_0 <| And.intro @fr91_0 <| And.intro @fo91_1 <| And.intro @fp91_1 <| And.intro @fr91_1 <| And.intro @fo91_2 <| And.intro @fp91_2 <| And.intro @fr91_2 <| And.intro @fo91_3 <| And.intro @fp91_3 <| And.intro @fr91_3 <| And.intro @fo91_4 <| And.intro @fp91_4 <| And.intro @fr91_4 <| And.intro @fo155_0 <| And.intro @fp155_0 <| And.intro @fr155_0 <| @fo155_1
def TT5 := And.intro @fp155_1 <| And.intro @fr155_1 <| And.intro @fo155_2 <| And.intro @fp155_2 <| And.intro @fr155_2 <| And.intro @fo155_3 <| And.intro @fp155_3 <| And.intro @fr155_3 <| And.intro @bl31 <| And.intro @fl31_0 <| And.intro @fl31_1 <| And.intro @fl31_2 <| And.intro @fl31_3 <| And.intro @fl31_4 <| And.intro @bl33 <| And.intro @bl56 <| And.intro @fl56_0 <| And.intro @fl56_1 <| And.intro @fl56_2 <| And.intro @fl56_3 <| And.intro @bl65 <| And.intro @fl65_0 <| And.intro @fl65_1 <| And.intro @fl65_2 <| And.intro @fl65_3 <| And.intro @bl75 <| And.intro @fl75_0 <| And.intro @fl75_1 <| And.intro @fl75_2 <| And.intro @fl75_3 <| And.intro @fl75_4 <| And.intro @fl75_5 <| And.intro @bl91 <| And.intro @fl91_0 <| And.intro @fl91_1 <| And.intro @fl91_2 <| And.intro @fl91_3 <| And.intro @fl91_4 <| And.intro @bl155 <| @fl155_0
def TT6 := And.intro @fl155_1 <| And.intro @fl155_2 <| And.intro @fl155_3 <| And.intro @al22 <| And.intro @aq22 <| And.intro @al31 <| And.intro @aq31 <| And.intro @al33 <| And.intro @aq33 <| And.intro @al56 <| And.intro @aq56 <| And.intro @al65 <| And.intro @aq65 <| And.intro @al75 <| And.intro @aq75 <| And.intro @al91 <| And.intro @aq91 <| And.intro @ab4 <| And.intro @cv3_89 <| And.intro @cv5_3 <| And.intro @cv24_3 <| And.intro @cv24_89 <| And.intro @cv89_5 <| And.intro @cv89_24 <| And.intro @ty22 <| And.intro @ty27 <| And.intro @ty28 <| And.intro @ty29 <| And.intro @ty31 <| And.intro @ty51 <| And.intro @ty56 <| And.intro @ty67 <| And.intro @ty91 <| And.intro @c_T_Tensor_at <| And.intro (fun l => @one_fm _ c_T_Tensor l c_T_Tensor_one) <| And.intro @c_T_Setting_at <| And.intro (fun l => @one_fm _ c_T_Setting l c_T_Setting_one) <| And.intro @c_T_Val_at <| And.intro (fun l => @one_fm _ c_T_Val l c_T_Val_one) <| @c_T_infer_ask_at
def TT7 := And.intro (fun l => @one_fm _ c_T_infer_ask l c_T_infer_ask_one) <| And.intro @c_T_mat_grid_at <| And.intro (fun l => @one_fm _ c_T_mat_grid l c_T_mat_grid_one) <| And.intro @c_T_mat_line_uint32_at <| And.intro (fun l => @one_fm _ c_T_mat_line_uint32 l c_T_mat_line_uint32_one) <| And.intro @c_T_soft_number_at <| (fun l => @one_fm _ c_T_soft_number l c_T_soft_number_one)
def TT := And.intro @TT0 <| And.intro @TT1 <| And.intro @TT2 <| And.intro @TT3 <| And.intro @TT4 <| And.intro @TT5 <| And.intro @TT6 <| @TT7
def OF := And.intro (fun l => @one_fm _ c_T_Tensor l c_T_Tensor_one) <| And.intro (fun l => @one_fm _ c_T_Setting l c_T_Setting_one) <| And.intro (fun l => @one_fm _ c_T_Val l c_T_Val_one) <| And.intro (fun l => @one_fm _ c_T_infer_ask l c_T_infer_ask_one) <| And.intro (fun l => @one_fm _ c_T_mat_grid l c_T_mat_grid_one) <| And.intro (fun l => @one_fm _ c_T_mat_line_uint32 l c_T_mat_line_uint32_one) <| (fun l => @one_fm _ c_T_soft_number l c_T_soft_number_one)
def NT := And.intro @c_T_Tensor_at <| And.intro @c_T_Setting_at <| And.intro @c_T_Val_at <| And.intro @c_T_infer_ask_at <| And.intro @c_T_mat_grid_at <| And.intro @c_T_mat_line_uint32_at <| @c_T_soft_number_at
def OZ := And.intro LN <| And.intro RO OF
theorem Zd {p : Prop} (h : p := by first | assumption | decide | with_unfolding_all rfl | omega | simp only [OZ] <;> omega | fail) : p := h
def ZZ := And.intro RR <| And.intro RM <| And.intro LN <| And.intro TT RH
def IJ := And.intro (@c_inj_iff _ _ c_T_Tensor_inj) <| And.intro (@lm_inj_iff _ _ (inj_avf (inj_fm c_T_Tensor_len (by decide) c_T_Tensor_inj))) <| And.intro (@fm_inj_iff _ _ (inj_fm c_T_Tensor_len (by decide) c_T_Tensor_inj)) <| And.intro (@c_inj_iff _ _ c_T_Setting_inj) <| And.intro (@lm_inj_iff _ _ (inj_avf (inj_fm c_T_Setting_len (by decide) c_T_Setting_inj))) <| And.intro (@fm_inj_iff _ _ (inj_fm c_T_Setting_len (by decide) c_T_Setting_inj)) <| And.intro (@c_inj_iff _ _ c_T_Val_inj) <| And.intro (@lm_inj_iff _ _ (inj_avf (inj_fm c_T_Val_len (by decide) c_T_Val_inj))) <| And.intro (@fm_inj_iff _ _ (inj_fm c_T_Val_len (by decide) c_T_Val_inj)) <| And.intro (@c_inj_iff _ _ c_T_infer_ask_inj) <| And.intro (@lm_inj_iff _ _ (inj_avf (inj_fm c_T_infer_ask_len (by decide) c_T_infer_ask_inj))) <| And.intro (@fm_inj_iff _ _ (inj_fm c_T_infer_ask_len (by decide) c_T_infer_ask_inj)) <| And.intro (@c_inj_iff _ _ c_T_mat_grid_inj) <| And.intro (@lm_inj_iff _ _ (inj_avf (inj_fm c_T_mat_grid_len (by decide) c_T_mat_grid_inj))) <| And.intro (@fm_inj_iff _ _ (inj_fm c_T_mat_grid_len (by decide) c_T_mat_grid_inj)) <| And.intro (@c_inj_iff _ _ c_T_mat_line_uint32_inj) <| And.intro (@lm_inj_iff _ _ (inj_avf (inj_fm c_T_mat_line_uint32_len (by decide) c_T_mat_line_uint32_inj))) <| And.intro (@fm_inj_iff _ _ (inj_fm c_T_mat_line_uint32_len (by decide) c_T_mat_line_uint32_inj)) <| And.intro (@c_inj_iff _ _ c_T_soft_number_inj) <| And.intro (@lm_inj_iff _ _ (inj_avf (inj_fm c_T_soft_number_len (by decide) c_T_soft_number_inj))) <| (@fm_inj_iff _ _ (inj_fm c_T_soft_number_len (by decide) c_T_soft_number_inj))
/-! 31: lattice/latticeref05.Known -/
def d31 : List (Nat × List Nat) := [(0, [2]), (0, []), (0, [0, 3, 4, 5, 6, 7, 8, 9, 10, 11, 12])]
def d31_at := by have h := tabL d31.eq_1; simp only [AllAt, Nat.zero_add, Nat.reduceAdd] at h; exact h
theorem i31 : finfo Tryz.prog 31 d31 = some ⟨bodyOf Tryz.f31, [.tmp 2], [4]⟩ := finfo_at Tryz.func31 rfl (by kernel_rfl) (by kernel_rfl)
def e31 : Bool → AV := fun r => .v (.bool r)
set_option maxHeartbeats 20000000 in
theorem w31 (cp : CallP) (fu : Nat) (x1 : Int) : J (go Tryz.prog noC cp noI 0 [] d31 fu (fin Tryz.prog [.tmp 2] [4]) (bodyOf Tryz.f31) (initE 0 [.v (.int .i64 x1)]) [] []) (ref05_Known fu x1) e31 := by
 unfold ref05_Known e31
 conv => arg 1; simp (disch := first | exact Zd | fail) only [bodyOf, Tryz.f31, ZZ, d31_at, simprocAttr]
 refine J.eq go_seq ?_
 conv => arg 1; simp (disch := first | exact Zd | fail) only [ZZ, d31_at, simprocAttr]
 refine J.ite (fun h1 => ?_) (fun h1 => ?_)
 ·have h1' := decide_eq_true h1
  conv => arg 1; simp (disch := first | exact Zd | fail) only [ZZ, d31_at, simprocAttr, h1']
  refine J.eq ret_seq ?_
  refine J.some ?_
  simp (maxSteps := 20000000) (disch := first | exact Zd | fail) only [ZZ, d31_at, simprocAttr, h1', FF, LN, NN, NT]
 ·have h1' := decide_eq_false h1
  conv => arg 1; simp (disch := first | exact Zd | fail) only [ZZ, d31_at, simprocAttr, h1']
  refine J.ite (fun h2 => ?_) (fun h2 => ?_)
  ·have h2' := decide_eq_true h2
   conv => arg 1; simp (disch := first | exact Zd | fail) only [ZZ, d31_at, simprocAttr, h1', h2']
   refine J.eq ret_seq ?_
   refine J.some ?_
   simp (maxSteps := 20000000) (disch := first | exact Zd | fail) only [ZZ, d31_at, simprocAttr, h1', h2', FF, LN, NN, NT]
  ·have h2' := decide_eq_false h2
   conv => arg 1; simp (disch := first | exact Zd | fail) only [ZZ, d31_at, simprocAttr, h1', h2']
   refine J.eq ret_seq ?_
   refine J.some ?_
   simp (maxSteps := 20000000) (disch := first | exact Zd | fail) only [ZZ, d31_at, simprocAttr, h1', h2', FF, LN, NN, NT]
noncomputable def t31 (fu : Nat) : CallP := noP
theorem t31_ok (fu : Nat) : CpOK Tryz.prog (t31 fu ) := noP_ok
theorem ok31 (fu : Nat) (x1 : Int) (r) (h : ref05_Known fu x1 = some r) : PureOK Tryz.prog 31 [.v (.int .i64 x1)] (e31 r) :=
  pure_J mixed (cp := t31 fu ) (t31_ok fu  ) noI_ok i31 (w31 _ fu x1  ) h
/-! 32: lattice/latticeref04.Size -/
def d32 : List (Nat × List Nat) := [(0, [2, 3]), (0, [6]), (0, []), (0, []), (0, [9, 10, 11]), (0, [0, 8]), (0, []), (0, []), (0, [12, 13, 14]), (0, []), (0, [16, 17]), (0, []), (0, [18, 19, 20, 21]), (0, []), (0, []), (0, []), (0, [23, 24, 25, 26, 27, 28, 29, 30]), (0, []), (0, [31, 32, 33, 34, 35, 36, 37, 38]), (0, []), (0, [5]), (0, []), (0, []), (0, []), (0, [4]), (0, []), (0, []), (0, []), (0, []), (0, []), (0, []), (0, []), (0, [41, 42, 43]), (0, []), (0, [45, 46]), (0, []), (0, [47, 48, 49, 50, 51, 52, 53, 54, 55, 56, 57, 58, 59]), (0, []), (0, []), (0, []), (0, [61, 62, 63, 64, 65, 66]), (0, []), (0, [7, 67])]
def d32_at := by have h := tabL d32.eq_1; simp only [AllAt, Nat.zero_add, Nat.reduceAdd] at h; exact h
theorem i32 : finfo Tryz.prog 32 d32 = some ⟨bodyOf Tryz.f32, [.tmp 2, .tmp 3], [3, 35]⟩ := finfo_at Tryz.func32 rfl (by kernel_rfl) (by kernel_rfl)
def e32 : (Int × Int) → AV := fun r => .tuple [.v (.int .i64 r.1), .v (.int .i64 r.2)]
set_option maxHeartbeats 20000000 in
theorem w32 (cp : CallP) (fu : Nat) (x1 : List Int) : J (go Tryz.prog noC cp noI 0 [] d32 fu (fin Tryz.prog [.tmp 2, .tmp 3] [3, 35]) (bodyOf Tryz.f32) (initE 0 [.arr x1.length (lm (ik .i64) x1)]) [] []) (ref04_Size fu x1) e32 := by
 unfold ref04_Size e32
 conv => arg 1; simp (disch := first | exact Zd | fail) only [bodyOf, Tryz.f32, ZZ, d32_at, simprocAttr]
 refine J.joinS (fun (t : Bool × Bool) => ([(0, .arr x1.length (lm (ik .i64) x1)), (4, .v (.bool t.1)), (5, .v (.bool t.2))], [])) (fun t => ref04_Size_k1 fu x1 t.1 t.2) ?_ (fun hj1 => ?_)
 ·rintro ⟨x2, x3⟩
  show J _ (ref04_Size_k1 fu x1 x2 x3) _
  unfold ref04_Size_k1
  refine J.eq go_seq ?_
  conv => arg 1; simp (disch := first | exact Zd | fail) only [ZZ, d32_at, simprocAttr]
  refine J.ite (fun h1 => ?_) (fun h1 => ?_)
  ·have h1' : x3 = true := h1
   refine J.some ?_
   simp (maxSteps := 20000000) (disch := first | exact Zd | fail) only [ZZ, d32_at, simprocAttr, h1', FF, LN, NN, NT]
  ·have h1' : x3 = false := Bool.eq_false_iff.2 h1
   conv => arg 1; simp (disch := first | exact Zd | fail) only [ZZ, d32_at, simprocAttr, h1']
   refine J.eq ret_seq ?_
   refine J.eq go_seq ?_
   conv => arg 1; simp (disch := first | exact Zd | fail) only [ZZ, d32_at, simprocAttr, h1']
   refine J.ite (fun h2 => ?_) (fun h2 => ?_)
   ·have h2' : x2 = true := h2
    refine J.some ?_
    simp (maxSteps := 20000000) (disch := first | exact Zd | fail) only [ZZ, d32_at, simprocAttr, h1', h2', FF, LN, NN, NT]
   ·have h2' : x2 = false := Bool.eq_false_iff.2 h2
    conv => arg 1; simp (disch := first | exact Zd | fail) only [ZZ, d32_at, simprocAttr, h1', h2']
    refine J.eq ret_seq ?_
    conv => arg 1; simp (disch := first | exact Zd | fail) only [ZZ, d32_at, simprocAttr, h1', h2']
    refine J.eq go_seq ?_
    conv => arg 1; simp (disch := first | exact Zd | fail) only [ZZ, d32_at, simprocAttr, h1', h2']
    unfold ref04_Size_W1
    refine J.loop (fun (s : Int × Int) => ([(0, .arr x1.length (lm (ik .i64) x1)), (7, .v (.int .i64 s.1)), (8, .v (.int .i64 s.2))], [])) (fun next s => ref04_Size_L1 fu x1 (fun x6 x7 => next (x6, x7)) s.1 s.2) (s0 := (1, 0)) ?_ ?_ ?_
    ·first | rfl | (simp only [LN, NN, NT])
    ·first | (simp (disch := first | exact Zd | fail) only [RR, simprocAttr, LN, NN, NT]; done) | (simp (disch := first | exact Zd | fail) only [RR, simprocAttr, LN, fm_app, NN, NT]; done) | rfl
    rintro next k1 hn1 ⟨x6, x7⟩
    let nx1 : Int → Int → Option (Int × Int) := (fun x6 x7 => next (x6, x7))
    show J _ (ref04_Size_L1 fu x1 nx1 x6 x7) _
    unfold ref04_Size_L1
    refine J.eq go_seq ?_
    conv => arg 1; simp (disch := first | exact Zd | fail) only [ZZ, d32_at, simprocAttr, h1', h2']
    refine J.ite (fun h3 => ?_) (fun h3 => ?_)
    ·have h3' := decide_eq_true h3
     have h3'' : decide ((x1.length : Int) ≤ x7) = false := decide_eq_false (by omega)
     conv => arg 1; simp (disch := first | exact Zd | fail) only [ZZ, d32_at, simprocAttr, h1', h2', h3'', h3']
     refine J.eq ret_seq ?_
     refine J.eq go_seq ?_
     conv => arg 1; simp (disch := first | exact Zd | fail) only [ZZ, d32_at, simprocAttr, h1', h2', h3'', h3']
     refine J.joinS (fun (t : Unit) => ([(0, .arr x1.length (lm (ik .i64) x1)), (7, .v (.int .i64 x6)), (8, .v (.int .i64 x7))], [])) (fun t => ref04_Size_k2 fu nx1 x1 x6 x7) ?_ (fun hj2 => ?_)
     ·rintro ⟨⟩
      show J _ (ref04_Size_k2 fu nx1 x1 x6 x7) _
      unfold ref04_Size_k2
      refine J.at fun x10 h4 h5 h6 => ?_
      conv => arg 1; simp (disch := first | exact Zd | fail) only [ZZ, d32_at, simprocAttr, h1', h2', h3'', h3', lm_ik h6]
      refine J.eq ret_seq ?_
      conv => arg 1; simp (disch := first | exact Zd | fail) only [ZZ, d32_at, simprocAttr, h1', h2', h3'', h3', lm_ik h6]
      refine J.next (s := (wk .i64 (x6 * x10), wk .i64 (x7 + 1))) hn1 ?_ ?_
      ·first | rfl | (simp only [LN, NN, NT])
      ·first | (simp (disch := first | exact Zd | fail) only [RR, simprocAttr, LN, NN, NT]; done) | (simp (disch := first | exact Zd | fail) only [RR, simprocAttr, LN, fm_app, NN, NT]; done) | rfl
     ·refine J.eq go_seq ?_
      refine J.at fun x11 h7 h8 h9 => ?_
      conv => arg 1; simp (disch := first | exact Zd | fail) only [ZZ, d32_at, simprocAttr, h1', h2', h3'', h3', lm_ik h9]
      refine J.ite (fun h10 => ?_) (fun h10 => ?_)
      ·have h10' := decide_eq_true h10
       have h10'' : decide (x11 ≤ 4096) = false := decide_eq_false (by omega)
       conv => arg 1; simp (disch := first | exact Zd | fail) only [ZZ, d32_at, simprocAttr, h1', h2', h3'', h3', lm_ik h9, h10'', h10']
       refine J.eq ret_seq ?_
       refine J.some ?_
       simp (maxSteps := 20000000) (disch := first | exact Zd | fail) only [ZZ, d32_at, simprocAttr, h1', h2', h3'', h3', lm_ik h9, h10'', h10', FF, LN, NN, NT]
      ·have h10' := decide_eq_false h10
       have h10'' : decide (x11 ≤ 4096) = true := decide_eq_true (by omega)
       conv => arg 1; simp (disch := first | exact Zd | fail) only [ZZ, d32_at, simprocAttr, h1', h2', h3'', h3', lm_ik h9, h10'', h10']
       refine J.eq ret_seq ?_
       conv => arg 1; simp (disch := first | exact Zd | fail) only [ZZ, d32_at, simprocAttr, h1', h2', h3'', h3', lm_ik h9, h10'', h10']
       refine J.ite (fun h11 => ?_) (fun h11 => ?_)
       ·have h11' := decide_eq_true h11
        have h11'' : decide ((wk .i64 (x6 * x11)) ≤ 4096) = false := decide_eq_false (by omega)
        refine J.some ?_
        simp (maxSteps := 20000000) (disch := first | exact Zd | fail) only [ZZ, d32_at, simprocAttr, h1', h2', h3'', h3', lm_ik h9, h10'', h10', h11'', h11', FF, LN, NN, NT]
       ·have h11' := decide_eq_false h11
        have h11'' : decide ((wk .i64 (x6 * x11)) ≤ 4096) = true := decide_eq_true (by omega)
        conv => arg 1; simp (disch := first | exact Zd | fail) only [ZZ, d32_at, simprocAttr, h1', h2', h3'', h3', lm_ik h9, h10'', h10', h11'', h11']
        refine J.jmp (t := ()) hj2 ?_ ?_
        ·first | rfl | (simp only [LN, NN, NT])
        ·first | (simp (disch := first | exact Zd | fail) only [RR, simprocAttr, LN, NN, NT]; done) | (simp (disch := first | exact Zd | fail) only [RR, simprocAttr, LN, fm_app, NN, NT]; done) | rfl
    ·have h3' := decide_eq_false h3
     have h3'' : decide ((x1.length : Int) ≤ x7) = true := decide_eq_true (by omega)
     conv => arg 1; simp (disch := first | exact Zd | fail) only [ZZ, d32_at, simprocAttr, h1', h2', h3'', h3']
     refine J.eq ret_seq ?_
     refine J.some ?_
     simp (maxSteps := 20000000) (disch := first | exact Zd | fail) only [ZZ, d32_at, simprocAttr, h1', h2', h3'', h3', FF, LN, NN, NT]
 ·conv => arg 1; simp (disch := first | exact Zd | fail) only [ZZ, d32_at, simprocAttr]
  unfold ref04_Size_W2
  refine J.loop (fun (s : Bool × Bool × Int) => ([(0, .arr x1.length (lm (ik .i64) x1)), (4, .v (.bool s.1)), (5, .v (.bool s.2.1)), (6, .v (.int .i64 s.2.2))], [])) (fun next s => ref04_Size_L2 fu x1 (fun x13 x14 x15 => next (x13, x14, x15)) s.1 s.2.1 s.2.2) (s0 := (false, decide (8 < (x1.length : Int)), 0)) ?_ ?_ ?_
  ·first | rfl | (simp only [LN, NN, NT])
  ·first | (simp (disch := first | exact Zd | fail) only [RR, simprocAttr, LN, NN, NT]; done) | (simp (disch := first | exact Zd | fail) only [RR, simprocAttr, LN, fm_app, NN, NT]; done) | rfl
  rintro next k2 hn2 ⟨x13, x14, x15⟩
  let nx2 : Bool → Bool → Int → Option (Int × Int) := (fun x13 x14 x15 => next (x13, x14, x15))
  show J _ (ref04_Size_L2 fu x1 nx2 x13 x14 x15) _
  unfold ref04_Size_L2
  refine J.eq go_seq ?_
  conv => arg 1; simp (disch := first | exact Zd | fail) only [ZZ, d32_at, simprocAttr]
  refine J.ite (fun h12 => ?_) (fun h12 => ?_)
  ·have h12' := decide_eq_true h12
   have h12'' : decide ((x1.length : Int) ≤ x15) = false := decide_eq_false (by omega)
   conv => arg 1; simp (disch := first | exact Zd | fail) only [ZZ, d32_at, simprocAttr, h12'', h12']
   refine J.eq ret_seq ?_
   refine J.eq go_seq ?_
   conv => arg 1; simp (disch := first | exact Zd | fail) only [ZZ, d32_at, simprocAttr, h12'', h12']
   refine J.eq go_seq ?_
   refine J.at fun x18 h13 h14 h15 => ?_
   conv => arg 1; simp (disch := first | exact Zd | fail) only [ZZ, d32_at, simprocAttr, h12'', h12', lm_ik h15]
   refine J.ite (fun h16 => ?_) (fun h16 => ?_)
   ·have h16' := decide_eq_true h16
    have h16'' : decide (0 ≤ x18) = false := decide_eq_false (by omega)
    refine J.some ?_
    simp (maxSteps := 20000000) (disch := first | exact Zd | fail) only [ZZ, d32_at, simprocAttr, h12'', h12', lm_ik h15, h16'', h16', FF, LN, NN, NT]
   ·have h16' := decide_eq_false h16
    have h16'' : decide (0 ≤ x18) = true := decide_eq_true (by omega)
    conv => arg 1; simp (disch := first | exact Zd | fail) only [ZZ, d32_at, simprocAttr, h12'', h12', lm_ik h15, h16'', h16']
    refine J.eq ret_seq ?_
    refine J.joinS (fun (t : Bool) => ([(0, .arr x1.length (lm (ik .i64) x1)), (4, .v (.bool t)), (5, .v (.bool x14)), (6, .v (.int .i64 x15))], [])) (fun t => ref04_Size_k3 fu nx2 x14 x15 x18 t) ?_ (fun hj3 => ?_)
    ·rintro x19
     show J _ (ref04_Size_k3 fu nx2 x14 x15 x18 x19) _
     unfold ref04_Size_k3
     conv => arg 1; simp (disch := first | exact Zd | fail) only [ZZ, d32_at, simprocAttr, h12'', h12', lm_ik h15, h16'', h16']
     refine J.ite (fun h17 => ?_) (fun h17 => ?_)
     ·have h17' : x14 = true := h17
      conv => arg 1; simp (disch := first | exact Zd | fail) only [ZZ, d32_at, simprocAttr, h12'', h12', lm_ik h15, h16'', h16', h17']
      refine J.eq ret_seq ?_
      conv => arg 1; simp (disch := first | exact Zd | fail) only [ZZ, d32_at, simprocAttr, h12'', h12', lm_ik h15, h16'', h16', h17']
      refine J.next (s := (x19, true, wk .i64 (x15 + 1))) hn2 ?_ ?_
      ·first | rfl | (simp only [LN, NN, NT])
      ·first | (simp (disch := first | exact Zd | fail) only [RR, simprocAttr, LN, NN, NT]; done) | (simp (disch := first | exact Zd | fail) only [RR, simprocAttr, LN, fm_app, NN, NT]; done) | rfl
     ·have h17' : x14 = false := Bool.eq_false_iff.2 h17
      conv => arg 1; simp (disch := first | exact Zd | fail) only [ZZ, d32_at, simprocAttr, h12'', h12', lm_ik h15, h16'', h16', h17']
      refine J.eq ret_seq ?_
      conv => arg 1; simp (disch := first | exact Zd | fail) only [ZZ, d32_at, simprocAttr, h12'', h12', lm_ik h15, h16'', h16', h17']
      refine J.next (s := (x19, decide (4096 < x18), wk .i64 (x15 + 1))) hn2 ?_ ?_
      ·first | rfl | (simp only [LN, NN, NT])
      ·first | (simp (disch := first | exact Zd | fail) only [RR, simprocAttr, LN, NN, NT]; done) | (simp (disch := first | exact Zd | fail) only [RR, simprocAttr, LN, fm_app, NN, NT]; done) | rfl
    ·conv => arg 1; simp (disch := first | exact Zd | fail) only [ZZ, d32_at, simprocAttr, h12'', h12', lm_ik h15, h16'', h16']
     refine J.ite (fun h18 => ?_) (fun h18 => ?_)
     ·have h18' : x13 = true := h18
      conv => arg 1; simp (disch := first | exact Zd | fail) only [ZZ, d32_at, simprocAttr, h12'', h12', lm_ik h15, h16'', h16', h18']
      refine J.jmp (t := true) hj3 ?_ ?_
      ·first | rfl | (simp only [LN, NN, NT])
      ·first | (simp (disch := first | exact Zd | fail) only [RR, simprocAttr, LN, NN, NT]; done) | (simp (disch := first | exact Zd | fail) only [RR, simprocAttr, LN, fm_app, NN, NT]; done) | rfl
     ·have h18' : x13 = false := Bool.eq_false_iff.2 h18
      conv => arg 1; simp (disch := first | exact Zd | fail) only [ZZ, d32_at, simprocAttr, h12'', h12', lm_ik h15, h16'', h16', h18']
      refine J.jmp (t := decide (x18 = 0)) hj3 ?_ ?_
      ·first | rfl | (simp only [LN, NN, NT])
      ·first | (simp (disch := first | exact Zd | fail) only [RR, simprocAttr, LN, NN, NT]; done) | (simp (disch := first | exact Zd | fail) only [RR, simprocAttr, LN, fm_app, NN, NT]; done) | rfl
  ·have h12' := decide_eq_false h12
   have h12'' : decide ((x1.length : Int) ≤ x15) = true := decide_eq_true (by omega)
   conv => arg 1; simp (disch := first | exact Zd | fail) only [ZZ, d32_at, simprocAttr, h12'', h12']
   refine J.jmp (t := (x13, x14)) hj1 ?_ ?_
   ·first | rfl | (simp only [LN, NN, NT])
   ·first | (simp (disch := first | exact Zd | fail) only [RR, simprocAttr, LN, NN, NT]; done) | (simp (disch := first | exact Zd | fail) only [RR, simprocAttr, LN, fm_app, NN, NT]; done) | rfl
noncomputable def t32 (fu : Nat) : CallP := noP
theorem t32_ok (fu : Nat) : CpOK Tryz.prog (t32 fu ) := noP_ok
theorem ok32 (fu : Nat) (x1 : List Int) (r) (h : ref04_Size fu x1 = some r) : PureOK Tryz.prog 32 [.arr x1.length (lm (ik .i64) x1)] (e32 r) :=
  pure_J mixed (cp := t32 fu ) (t32_ok fu  ) noI_ok i32 (w32 _ fu x1  ) h
/-! 14: lattice/latticeref05.Check -/
def d14 : List (Nat × List Nat) := [(0, [0, 2]), (0, [3, 22]), (0, [8, 9, 10]), (0, []), (0, []), (0, []), (0, [12, 13, 14, 15, 16, 17]), (0, []), (0, [18]), (0, []), (0, [20]), (0, []), (0, [4]), (0, []), (0, []), (0, []), (0, []), (0, []), (0, [21]), (0, []), (0, [23]), (0, []), (0, [25]), (0, []), (0, [26]), (0, []), (0, [28]), (0, []), (0, [29]), (0, []), (0, [1, 5, 6, 7, 30, 31, 32, 33, 34, 35, 36, 37, 38, 39, 40, 41, 42, 43, 44, 45, 46, 47]), (0, []), (0, []), (0, []), (0, [])]
def d14_at := by have h := tabL d14.eq_1; simp only [AllAt, Nat.zero_add, Nat.reduceAdd] at h; exact h
theorem i14 : finfo Tryz.prog 14 d14 = some ⟨bodyOf Tryz.f14, [.tmp 2], [35]⟩ := finfo_at Tryz.func14 rfl (by kernel_rfl) (by kernel_rfl)
def e14 : Int → AV := fun r => .v (.int .i64 r)
set_option maxHeartbeats 20000000 in
theorem w14 (cp : CallP) (fu : Nat) (x1 : T_Tensor) (H31_0 : ∀ (a0 : Int) r, ref05_Known fu a0 = some r → cp 31 [.v (.int .i64 a0)] = some (.v (.bool r))) (H32_0 : ∀ (a0 : List Int) r, ref04_Size fu a0 = some r → cp 32 [.arr a0.length (lm (ik .i64) a0)] = some (.tuple [.v (.int .i64 r.1), .v (.int .i64 r.2)])) : J (go Tryz.prog noC cp noI 0 [] d14 fu (fin Tryz.prog [.tmp 2] [35]) (bodyOf Tryz.f14) (initE 0 [.agg (c_T_Tensor x1)]) [] []) (ref05_Check fu x1) e14 := by
 unfold ref05_Check e14
 conv => arg 1; simp (disch := first | exact Zd | fail) only [bodyOf, Tryz.f14, ZZ, d14_at, simprocAttr]
 refine J.eq go_seq ?_
 refine J.bind fun x2 h1 => ?_
 have e_h1 := H31_0 _ _ h1
 try simp only [NN, NT, LN, simprocAttr, DT] at e_h1
 conv => arg 1; simp (disch := first | exact Zd | fail) only [ZZ, d14_at, simprocAttr, e_h1]
 refine J.ite (fun h2 => ?_) (fun h2 => ?_)
 ·have h2' : x2 = true := h2
  conv => arg 1; simp (disch := first | exact Zd | fail) only [ZZ, d14_at, simprocAttr, e_h1, h2']
  refine J.eq ret_seq ?_
  refine J.bind fun x3 h3 => ?_
  have e_h3 := H32_0 _ _ h3
  try simp only [NN, NT, LN, simprocAttr, DT] at e_h3
  conv => arg 1; simp (disch := first | exact Zd | fail) only [ZZ, d14_at, simprocAttr, e_h1, h2', e_h3]
  refine J.eq go_seq ?_
  conv => arg 1; simp (disch := first | exact Zd | fail) only [ZZ, d14_at, simprocAttr, e_h1, h2', e_h3]
  refine J.ite (fun h4 => ?_) (fun h4 => ?_)
  ·have h4' := decide_eq_true h4
   conv => arg 1; simp (disch := first | exact Zd | fail) only [ZZ, d14_at, simprocAttr, e_h1, h2', e_h3, h4']
   refine J.eq ret_seq ?_
   conv => arg 1; simp (disch := first | exact Zd | fail) only [ZZ, d14_at, simprocAttr, e_h1, h2', e_h3, h4']
   refine J.joinS (fun (t : Int × Int × Int) => ([(1, .ptr (0, 1, 0) 0 0), (5, .v (.int .i64 t.1)), (6, .v (.int .i64 t.2.1)), (7, .v (.int .i64 t.2.2))], [((0, 1, 0), .bx true ([.v (.int .i64 x1.fType), .arr x1.fDims.length (lm (ik .i64) x1.fDims), .arr x1.fF.length (lm (ik .u32) x1.fF), .arr x1.fI.length (lm (ik .i64) x1.fI), .arr x1.fB.length (lm (bk) x1.fB)]))])) (fun t => ref05_Check_k1 fu x1 t.1 t.2.1 t.2.2) ?_ (fun hj1 => ?_)
   ·rintro ⟨x4, x5, x6⟩
    show J _ (ref05_Check_k1 fu x1 x4 x5 x6) _
    unfold ref05_Check_k1
    refine J.eq go_seq ?_
    refine J.eq go_seq ?_
    conv => arg 1; simp (disch := first | exact Zd | fail) only [ZZ, d14_at, simprocAttr, e_h1, h2', e_h3, h4']
    refine J.ite (fun h5 => ?_) (fun h5 => ?_)
    ·have h5' := decide_eq_true h5
     conv => arg 1; simp (disch := first | exact Zd | fail) only [ZZ, d14_at, simprocAttr, e_h1, h2', e_h3, h4', h5']
     refine J.ite (fun h6 => ?_) (fun h6 => ?_)
     ·have h6' := decide_eq_true h6
      conv => arg 1; simp (disch := first | exact Zd | fail) only [ZZ, d14_at, simprocAttr, e_h1, h2', e_h3, h4', h5', h6']
      refine J.eq ret_seq ?_
      conv => arg 1; simp (disch := first | exact Zd | fail) only [ZZ, d14_at, simprocAttr, e_h1, h2', e_h3, h4', h5', h6']
      refine J.ite (fun h7 => ?_) (fun h7 => ?_)
      ·have h7' := decide_eq_true h7
       conv => arg 1; simp (disch := first | exact Zd | fail) only [ZZ, d14_at, simprocAttr, e_h1, h2', e_h3, h4', h5', h6', h7']
       refine J.eq ret_seq ?_
       refine J.some ?_
       simp (maxSteps := 20000000) (disch := first | exact Zd | fail) only [ZZ, d14_at, simprocAttr, e_h1, h2', e_h3, h4', h5', h6', h7', FF, LN, NN, NT]
      ·have h7' := decide_eq_false h7
       refine J.some ?_
       simp (maxSteps := 20000000) (disch := first | exact Zd | fail) only [ZZ, d14_at, simprocAttr, e_h1, h2', e_h3, h4', h5', h6', h7', FF, LN, NN, NT]
     ·have h6' := decide_eq_false h6
      conv => arg 1; simp (disch := first | exact Zd | fail) only [ZZ, d14_at, simprocAttr, e_h1, h2', e_h3, h4', h5', h6']
      refine J.eq ret_seq ?_
      refine J.some ?_
      simp (maxSteps := 20000000) (disch := first | exact Zd | fail) only [ZZ, d14_at, simprocAttr, e_h1, h2', e_h3, h4', h5', h6', FF, LN, NN, NT]
    ·have h5' := decide_eq_false h5
     conv => arg 1; simp (disch := first | exact Zd | fail) only [ZZ, d14_at, simprocAttr, e_h1, h2', e_h3, h4', h5']
     refine J.eq ret_seq ?_
     refine J.some ?_
     simp (maxSteps := 20000000) (disch := first | exact Zd | fail) only [ZZ, d14_at, simprocAttr, e_h1, h2', e_h3, h4', h5', FF, LN, NN, NT]
   ·conv => arg 1; simp (disch := first | exact Zd | fail) only [ZZ, d14_at, simprocAttr, e_h1, h2', e_h3, h4']
    refine J.ite (fun h8 => ?_) (fun h8 => ?_)
    ·have h8' := decide_eq_true h8
     conv => arg 1; simp (disch := first | exact Zd | fail) only [ZZ, d14_at, simprocAttr, e_h1, h2', e_h3, h4', h8']
     refine J.jmp (t := (x3.1, 0, 0)) hj1 ?_ ?_
     ·first | rfl | (simp only [LN, NN, NT])
     ·first | (simp (disch := first | exact Zd | fail) only [RR, simprocAttr, LN, NN, NT]; done) | (simp (disch := first | exact Zd | fail) only [RR, simprocAttr, LN, fm_app, NN, NT]; done) | rfl
    ·have h8' := decide_eq_false h8
     conv => arg 1; simp (disch := first | exact Zd | fail) only [ZZ, d14_at, simprocAttr, e_h1, h2', e_h3, h4', h8']
     refine J.ite (fun h9 => ?_) (fun h9 => ?_)
     ·have h9' := decide_eq_true h9
      conv => arg 1; simp (disch := first | exact Zd | fail) only [ZZ, d14_at, simprocAttr, e_h1, h2', e_h3, h4', h8', h9']
      refine J.jmp (t := (0, x3.1, 0)) hj1 ?_ ?_
      ·first | rfl | (simp only [LN, NN, NT])
      ·first | (simp (disch := first | exact Zd | fail) only [RR, simprocAttr, LN, NN, NT]; done) | (simp (disch := first | exact Zd | fail) only [RR, simprocAttr, LN, fm_app, NN, NT]; done) | rfl
     ·have h9' := decide_eq_false h9
      conv => arg 1; simp (disch := first | exact Zd | fail) only [ZZ, d14_at, simprocAttr, e_h1, h2', e_h3, h4', h8', h9']
      refine J.jmp (t := (0, 0, x3.1)) hj1 ?_ ?_
      ·first | rfl | (simp only [LN, NN, NT])
      ·first | (simp (disch := first | exact Zd | fail) only [RR, simprocAttr, LN, NN, NT]; done) | (simp (disch := first | exact Zd | fail) only [RR, simprocAttr, LN, fm_app, NN, NT]; done) | rfl
  ·have h4' := decide_eq_false h4
   refine J.some ?_
   simp (maxSteps := 20000000) (disch := first | exact Zd | fail) only [ZZ, d14_at, simprocAttr, e_h1, h2', e_h3, h4', FF, LN, NN, NT]
 ·have h2' : x2 = false := Bool.eq_false_iff.2 h2
  refine J.some ?_
  simp (maxSteps := 20000000) (disch := first | exact Zd | fail) only [ZZ, d14_at, simprocAttr, e_h1, h2', FF, LN, NN, NT]
noncomputable def t14 (fu : Nat) : CallP := orE 31 (mkC (fun (t : Int) => ([.v (.int .i64 t)] : List AV)) (fun t => ref05_Known fu t) e31) (orE 32 (mkC (fun (t : List Int) => ([.arr t.length (lm (ik .i64) t)] : List AV)) (fun t => ref04_Size fu t) e32) (noP))
theorem t14_ok (fu : Nat) : CpOK Tryz.prog (t14 fu ) := orE_ok (orE_ok (noP_ok) (mkC_ok (fun t b h => ok32 fu t  b h))) (mkC_ok (fun t b h => ok31 fu t  b h))
theorem ok14 (fu : Nat) (x1 : T_Tensor) (r) (h : ref05_Check fu x1 = some r) : PureOK Tryz.prog 14 [.agg (c_T_Tensor x1)] (e14 r) :=
  pure_J mixed (cp := t14 fu ) (t14_ok fu  ) noI_ok i14 (w14 _ fu x1  (fun a0 r h => orE_hit (mkC_at (a := a0) (by intro a b h; first | (exact rfl) | (simp only [INJ, IJ] at h; first | exact h | (simp_all [Prod.ext_iff]) )) h)) (fun a0 r h => orE_miss (by decide) (orE_hit (mkC_at (a := a0) (by intro a b h; first | (exact rfl) | (simp only [INJ, IJ] at h; first | exact h | (simp_all [Prod.ext_iff]) )) h)))) h
/-! 15: lattice/latticeref01.Abs -/
def d15 : List (Nat × List Nat) := [(0, [2]), (0, []), (0, [0, 3, 4])]
def d15_at := by have h := tabL d15.eq_1; simp only [AllAt, Nat.zero_add, Nat.reduceAdd] at h; exact h
theorem i15 : finfo Tryz.prog 15 d15 = some ⟨bodyOf Tryz.f15, [.tmp 2], [24]⟩ := finfo_at Tryz.func15 rfl (by kernel_rfl) (by kernel_rfl)
def e15 : Int → AV := fun r => .v (.int .u32 r)
set_option maxHeartbeats 20000000 in
theorem w15 (cp : CallP) (fu : Nat) (x1 : Int) : J (go Tryz.prog noC cp noI 0 [] d15 fu (fin Tryz.prog [.tmp 2] [24]) (bodyOf Tryz.f15) (initE 0 [.v (.int .u32 x1)]) [] []) (ref01_Abs fu x1) e15 := by
 unfold ref01_Abs e15
 refine J.some ?_
 simp (maxSteps := 20000000) (disch := first | exact Zd | fail) only [bodyOf, Tryz.f15, ZZ, d15_at, simprocAttr, FF, LN, NN, NT]
noncomputable def t15 (fu : Nat) : CallP := noP
theorem t15_ok (fu : Nat) : CpOK Tryz.prog (t15 fu ) := noP_ok
theorem ok15 (fu : Nat) (x1 : Int) (r) (h : ref01_Abs fu x1 = some r) : PureOK Tryz.prog 15 [.v (.int .u32 x1)] (e15 r) :=
  pure_J mixed (cp := t15 fu ) (t15_ok fu  ) noI_ok i15 (w15 _ fu x1  ) h
/-! 16: lattice/latticelaw14.floats -/
open Aw (d16)
def d16_at := by have h := tabL Aw.d16.eq_1; simp only [AllAt, Nat.zero_add, Nat.reduceAdd] at h; exact h
theorem i16 : finfo Tryz.prog 16 d16 = some ⟨bodyOf Tryz.f16, [.cell 4 31], [31]⟩ := finfo_at Tryz.func16 rfl (by kernel_rfl) (by kernel_rfl)
def e16 : T_Tensor → AV := fun r => .agg [.v (.int .i64 r.fType), .arr r.fDims.length (lm (ik .i64) r.fDims), .arr r.fF.length (lm (ik .u32) r.fF), .arr r.fI.length (lm (ik .i64) r.fI), .arr r.fB.length (lm (bk) r.fB)]
set_option maxHeartbeats 20000000 in
theorem w16 (cp : CallP) (fu : Nat) (x1 : List Int) (x2 : List Int) : J (go Tryz.prog noC cp noI 0 [] d16 fu (finS Tryz.prog [.cell 4 31] [31]) (bodyOf Tryz.f16) (initE 0 [.arr x1.length (lm (ik .i64) x1), .arr x2.length (lm (ik .u32) x2)]) [] []) (law14_floats fu x1 x2) e16 := by
 unfold law14_floats e16
 refine J.some ?_
 simp (maxSteps := 20000000) (disch := first | exact Zd | fail) only [bodyOf, Tryz.f16, ZZ, d16_at, simprocAttr, SE, FF, LN, NN, NT]
noncomputable def t16 (fu : Nat) : CallP := noP
theorem t16_ok (fu : Nat) : CpOK Tryz.prog (t16 fu ) := noP_ok
theorem ok16 (fu : Nat) (x1 : List Int) (x2 : List Int) (r) (h : law14_floats fu x1 x2 = some r) : PureOK Tryz.prog 16 [.arr x1.length (lm (ik .i64) x1), .arr x2.length (lm (ik .u32) x2)] (e16 r) :=
  pureS_J mixed (cp := t16 fu ) (t16_ok fu  ) noI_ok i16 (w16 _ fu x1 x2  ) h
/-! 18: lattice/mat.Has -/
open Aw (d18)
def d18_at := by have h := tabL Aw.d18.eq_1; simp only [AllAt, Nat.zero_add, Nat.reduceAdd] at h; exact h
theorem i18 : finfo Tryz.prog 18 d18 = some ⟨bodyOf Tryz.f18, [.tmp 2], [4]⟩ := finfo_at Tryz.func18 rfl (by kernel_rfl) (by kernel_rfl)
def e18 : Bool → AV := fun r => .v (.bool r)
set_option maxHeartbeats 20000000 in
theorem w18 (cp : CallP) (fu : Nat) (x1 : Int) : J (go Tryz.prog noC cp noI 0 [] d18 fu (fin Tryz.prog [.tmp 2] [4]) (bodyOf Tryz.f18) (initE 0 [.v (.int .i64 x1)]) [] []) (mat_Has fu x1) e18 := by
 unfold mat_Has e18
 refine J.chk fun h1 => ?_
 conv => arg 1; simp (disch := first | exact Zd | fail) only [bodyOf, Tryz.f18, ZZ, d18_at, simprocAttr, h1]
 refine J.eq go_seq ?_
 conv => arg 1; simp (disch := first | exact Zd | fail) only [ZZ, d18_at, simprocAttr, h1]
 refine J.eq ret_seq ?_
 refine J.some ?_
 simp (maxSteps := 20000000) (disch := first | exact Zd | fail) only [ZZ, d18_at, simprocAttr, h1, FF, LN, NN, NT]
noncomputable def t18 (fu : Nat) : CallP := noP
theorem t18_ok (fu : Nat) : CpOK Tryz.prog (t18 fu ) := noP_ok
theorem ok18 (fu : Nat) (x1 : Int) (r) (h : mat_Has fu x1 = some r) : PureOK Tryz.prog 18 [.v (.int .i64 x1)] (e18 r) :=
  pure_J mixed (cp := t18 fu ) (t18_ok fu  ) noI_ok i18 (w18 _ fu x1  ) h
/-! 78: lattice/tens.Width -/
open Aw (d78)
def d78_at := by have h := tabL Aw.d78.eq_1; simp only [AllAt, Nat.zero_add, Nat.reduceAdd] at h; exact h
theorem i78 : finfo Tryz.prog 78 d78 = some ⟨bodyOf Tryz.f78, [.tmp 2], [3]⟩ := finfo_at Tryz.func78 rfl (by kernel_rfl) (by kernel_rfl)
def e78 : Int → AV := fun r => .v (.int .i64 r)
set_option maxHeartbeats 20000000 in
theorem w78 (cp : CallP) (fu : Nat) (x1 : Int) : J (go Tryz.prog noC cp noI 0 [] d78 fu (fin Tryz.prog [.tmp 2] [3]) (bodyOf Tryz.f78) (initE 0 [.v (.int .i64 x1)]) [] []) (tens_Width fu x1) e78 := by
 unfold tens_Width e78
 conv => arg 1; simp (disch := first | exact Zd | fail) only [bodyOf, Tryz.f78, ZZ, d78_at, simprocAttr]
 refine J.eq go_seq ?_
 conv => arg 1; simp (disch := first | exact Zd | fail) only [ZZ, d78_at, simprocAttr]
 refine J.ite (fun h1 => ?_) (fun h1 => ?_)
 ·have h1' := decide_eq_true h1
  refine J.some ?_
  simp (maxSteps := 20000000) (disch := first | exact Zd | fail) only [ZZ, d78_at, simprocAttr, h1', FF, LN, NN, NT]
 ·have h1' := decide_eq_false h1
  conv => arg 1; simp (disch := first | exact Zd | fail) only [ZZ, d78_at, simprocAttr, h1']
  refine J.ite (fun h2 => ?_) (fun h2 => ?_)
  ·have h2' := decide_eq_true h2
   refine J.some ?_
   simp (maxSteps := 20000000) (disch := first | exact Zd | fail) only [ZZ, d78_at, simprocAttr, h1', h2', FF, LN, NN, NT]
  ·have h2' := decide_eq_false h2
   conv => arg 1; simp (disch := first | exact Zd | fail) only [ZZ, d78_at, simprocAttr, h1', h2']
   refine J.ite (fun h3 => ?_) (fun h3 => ?_)
   ·have h3' := decide_eq_true h3
    refine J.some ?_
    simp (maxSteps := 20000000) (disch := first | exact Zd | fail) only [ZZ, d78_at, simprocAttr, h1', h2', h3', FF, LN, NN, NT]
   ·have h3' := decide_eq_false h3
    conv => arg 1; simp (disch := first | exact Zd | fail) only [ZZ, d78_at, simprocAttr, h1', h2', h3']
    refine J.eq ret_seq ?_
    refine J.some ?_
    simp (maxSteps := 20000000) (disch := first | exact Zd | fail) only [ZZ, d78_at, simprocAttr, h1', h2', h3', FF, LN, NN, NT]
noncomputable def t78 (fu : Nat) : CallP := noP
theorem t78_ok (fu : Nat) : CpOK Tryz.prog (t78 fu ) := noP_ok
theorem ok78 (fu : Nat) (x1 : Int) (r) (h : tens_Width fu x1 = some r) : PureOK Tryz.prog 78 [.v (.int .i64 x1)] (e78 r) :=
  pure_J mixed (cp := t78 fu ) (t78_ok fu  ) noI_ok i78 (w78 _ fu x1  ) h
/-! 37: lattice/tens.known -/
open Aw (d37)
def d37_at := by have h := tabL Aw.d37.eq_1; simp only [AllAt, Nat.zero_add, Nat.reduceAdd] at h; exact h
theorem i37 : finfo Tryz.prog 37 d37 = some ⟨bodyOf Tryz.f37, [.tmp 2], [4]⟩ := finfo_at Tryz.func37 rfl (by kernel_rfl) (by kernel_rfl)
def e37 : Bool → AV := fun r => .v (.bool r)
set_option maxHeartbeats 20000000 in
theorem w37 (cp : CallP) (fu : Nat) (x1 : Int) (H78_0 : ∀ (a0 : Int) r, tens_Width fu a0 = some r → cp 78 [.v (.int .i64 a0)] = some (.v (.int .i64 r))) : J (go Tryz.prog noC cp noI 0 [] d37 fu (fin Tryz.prog [.tmp 2] [4]) (bodyOf Tryz.f37) (initE 0 [.v (.int .i64 x1)]) [] []) (tens_known fu x1) e37 := by
 unfold tens_known e37
 refine J.bind fun x2 h1 => ?_
 have e_h1 := H78_0 _ _ h1
 try simp only [NN, NT, LN, simprocAttr, DT] at e_h1
 refine J.some ?_
 simp (maxSteps := 20000000) (disch := first | exact Zd | fail) only [bodyOf, Tryz.f37, ZZ, d37_at, simprocAttr, e_h1, FF, LN, NN, NT]
noncomputable def t37 (fu : Nat) : CallP := orE 78 (mkC (fun (t : Int) => ([.v (.int .i64 t)] : List AV)) (fun t => tens_Width fu t) e78) (noP)
theorem t37_ok (fu : Nat) : CpOK Tryz.prog (t37 fu ) := orE_ok (noP_ok) (mkC_ok (fun t b h => ok78 fu t  b h))
theorem ok37 (fu : Nat) (x1 : Int) (r) (h : tens_known fu x1 = some r) : PureOK Tryz.prog 37 [.v (.int .i64 x1)] (e37 r) :=
  pure_J mixed (cp := t37 fu ) (t37_ok fu  ) noI_ok i37 (w37 _ fu x1  (fun a0 r h => orE_hit (mkC_at (a := a0) (by intro a b h; first | (exact rfl) | (simp only [INJ, IJ] at h; first | exact h | (simp_all [Prod.ext_iff]) )) h))) h
/-! 102: slices.IndexFunc[[]int,int] -/
open Aw (d102)
def d102_at := by have h := tabL Aw.d102.eq_1; simp only [AllAt, Nat.zero_add, Nat.reduceAdd] at h; exact h
theorem i102 : finfo Tryz.prog 102 d102 = some ⟨bodyOf Tryz.f102, [.tmp 4], [3]⟩ := finfo_at Tryz.func102 rfl (by kernel_rfl) (by kernel_rfl)
def e102 : Int → AV := fun r => .v (.int .i64 r)
set_option maxHeartbeats 20000000 in
theorem w102 (cp : CallP) (fu : Nat) (x1 : List Int) (p1 : Int → Option Bool) (fv_p1 : FuncId) (ca_p1 : List AV) (cap_p1 : Capt ca_p1) (hp_p1 : ∀ (y0 : Int) r, p1 y0 = some r → cp fv_p1 ((.v (.int .i64 y0)) :: ca_p1) = some (.v (.bool r))) : J (go Tryz.prog noC cp noI 0 [] d102 fu (fin Tryz.prog [.tmp 4] [3]) (bodyOf Tryz.f102) (initE 0 [.arr x1.length (lm (ik .i64) x1), .fn fv_p1 [] ca_p1]) [] []) (slices_IndexFunc_int fu x1 p1) e102 := by
 unfold slices_IndexFunc_int e102
 have c4_p1 := fun g => (cap_p1.1 g).1; have c3_p1 := fun g => (cap_p1.1 g).2.1; have b4_p1 := fun g => (cap_p1.1 g).2.2.1; have b3_p1 := fun g => (cap_p1.1 g).2.2.2; have nm_p1 := cap_p1.2
 conv => arg 1; simp (disch := first | exact Zd | fail) only [bodyOf, Tryz.f102, ZZ, d102_at, simprocAttr, c4_p1, c3_p1, b4_p1, b3_p1, nm_p1]
 refine J.eq go_seq ?_
 conv => arg 1; simp (disch := first | exact Zd | fail) only [ZZ, d102_at, simprocAttr, c4_p1, c3_p1, b4_p1, b3_p1, nm_p1]
 unfold slices_IndexFunc_int_W1
 refine J.loop (fun (s : Int) => ([(0, .arr x1.length (lm (ik .i64) x1)), (1, .fn fv_p1 [] ca_p1), (7, .v (.int .i64 (x1.length : Int))), (8, .v (.int .i64 s))], [])) (fun next s => slices_IndexFunc_int_L1 fu p1 x1 next s) (s0 := 0) ?_ ?_ ?_
 ·first | rfl | (simp only [LN, NN, NT])
 ·first | (simp (disch := first | exact Zd | fail) only [RR, simprocAttr, LN, NN, NT]; done) | (simp (disch := first | exact Zd | fail) only [RR, simprocAttr, LN, fm_app, NN, NT]; done) | rfl
 rintro nx1 k1 hn1 x4
 show J _ (slices_IndexFunc_int_L1 fu p1 x1 nx1 x4) _
 unfold slices_IndexFunc_int_L1
 conv => arg 1; simp (disch := first | exact Zd | fail) only [ZZ, d102_at, simprocAttr, c4_p1, c3_p1, b4_p1, b3_p1, nm_p1]
 refine J.eq go_seq ?_
 conv => arg 1; simp (disch := first | exact Zd | fail) only [ZZ, d102_at, simprocAttr, c4_p1, c3_p1, b4_p1, b3_p1, nm_p1]
 refine J.ite (fun h1 => ?_) (fun h1 => ?_)
 ·have h1' := decide_eq_true h1
  have h1'' : decide ((x1.length : Int) ≤ x4) = false := decide_eq_false (by omega)
  conv => arg 1; simp (disch := first | exact Zd | fail) only [ZZ, d102_at, simprocAttr, c4_p1, c3_p1, b4_p1, b3_p1, nm_p1, h1'', h1']
  refine J.eq ret_seq ?_
  refine J.eq go_seq ?_
  refine J.at fun x7 h2 h3 h4 => ?_
  refine J.bind fun x8 h5 => ?_
  have e_h5 := hp_p1 _ _ h5
  try simp only [NN, NT, LN, simprocAttr, DT] at e_h5
  conv => arg 1; simp (disch := first | exact Zd | fail) only [ZZ, d102_at, simprocAttr, c4_p1, c3_p1, b4_p1, b3_p1, nm_p1, h1'', h1', lm_ik h4, e_h5]
  refine J.ite (fun h6 => ?_) (fun h6 => ?_)
  ·have h6' : x8 = true := h6
   refine J.some ?_
   simp (maxSteps := 20000000) (disch := first | exact Zd | fail) only [ZZ, d102_at, simprocAttr, c4_p1, c3_p1, b4_p1, b3_p1, nm_p1, h1'', h1', lm_ik h4, e_h5, h6', FF, LN, NN, NT]
  ·have h6' : x8 = false := Bool.eq_false_iff.2 h6
   conv => arg 1; simp (disch := first | exact Zd | fail) only [ZZ, d102_at, simprocAttr, c4_p1, c3_p1, b4_p1, b3_p1, nm_p1, h1'', h1', lm_ik h4, e_h5, h6']
   refine J.eq ret_seq ?_
   conv => arg 1; simp (disch := first | exact Zd | fail) only [ZZ, d102_at, simprocAttr, c4_p1, c3_p1, b4_p1, b3_p1, nm_p1, h1'', h1', lm_ik h4, e_h5, h6']
   refine J.next (s := wk .i64 (x4 + 1)) hn1 ?_ ?_
   ·first | rfl | (simp only [LN, NN, NT])
   ·first | (simp (disch := first | exact Zd | fail) only [RR, simprocAttr, LN, NN, NT]; done) | (simp (disch := first | exact Zd | fail) only [RR, simprocAttr, LN, fm_app, NN, NT]; done) | rfl
 ·have h1' := decide_eq_false h1
  have h1'' : decide ((x1.length : Int) ≤ x4) = true := decide_eq_true (by omega)
  conv => arg 1; simp (disch := first | exact Zd | fail) only [ZZ, d102_at, simprocAttr, c4_p1, c3_p1, b4_p1, b3_p1, nm_p1, h1'', h1']
  refine J.eq ret_seq ?_
  refine J.some ?_
  simp (maxSteps := 20000000) (disch := first | exact Zd | fail) only [ZZ, d102_at, simprocAttr, c4_p1, c3_p1, b4_p1, b3_p1, nm_p1, h1'', h1', FF, LN, NN, NT]
noncomputable def t102 (fu : Nat) (x1 : List Int) (p1 : Int → Option Bool) (fv_p1 : FuncId) (ca_p1 : List AV) : CallP := orE fv_p1 (mkC (fun (t : Int) => ((.v (.int .i64 t)) :: ca_p1 : List AV)) (fun t => p1 t) (fun r => .v (.bool r))) (noP)
theorem t102_ok (fu : Nat) (x1 : List Int) (p1 : Int → Option Bool) (fv_p1 : FuncId) (ca_p1 : List AV) (cap_p1 : Capt ca_p1) (hp_p1 : ∀ (y0 : Int) r, p1 y0 = some r → PureOK Tryz.prog fv_p1 ((.v (.int .i64 y0)) :: ca_p1) (.v (.bool r))) : CpOK Tryz.prog (t102 fu x1 p1 fv_p1 ca_p1) := orE_ok (noP_ok) (mkC_ok (fun t b h => hp_p1 t b h))
theorem ok102 (fu : Nat) (x1 : List Int) (p1 : Int → Option Bool) (fv_p1 : FuncId) (ca_p1 : List AV) (cap_p1 : Capt ca_p1) (hp_p1 : ∀ (y0 : Int) r, p1 y0 = some r → PureOK Tryz.prog fv_p1 ((.v (.int .i64 y0)) :: ca_p1) (.v (.bool r))) (r) (h : slices_IndexFunc_int fu x1 p1 = some r) : PureOK Tryz.prog 102 [.arr x1.length (lm (ik .i64) x1), .fn fv_p1 [] ca_p1] (e102 r) :=
  pure_J mixed (cp := t102 fu x1 p1 fv_p1 ca_p1) (t102_ok fu x1 p1 fv_p1 ca_p1 cap_p1 hp_p1) noI_ok i102 (w102 _ fu x1 p1 fv_p1 ca_p1 cap_p1 (fun y0 r h => orE_hit (mkC_at (a := y0) (by intro a b h; first | (exact rfl) | (simp only [INJ, IJ] at h; first | exact h | (simp_all [Prod.ext_iff]) )) h)) ) h
/-! 45: slices.ContainsFunc[[]int,int] -/
open Aw (d45)
def d45_at := by have h := tabL Aw.d45.eq_1; simp only [AllAt, Nat.zero_add, Nat.reduceAdd] at h; exact h
theorem i45 : finfo Tryz.prog 45 d45 = some ⟨bodyOf Tryz.f45, [.tmp 4], [4]⟩ := finfo_at Tryz.func45 rfl (by kernel_rfl) (by kernel_rfl)
def e45 : Bool → AV := fun r => .v (.bool r)
set_option maxHeartbeats 20000000 in
theorem w45 (cp : CallP) (fu : Nat) (x1 : List Int) (p1 : Int → Option Bool) (fv_p1 : FuncId) (ca_p1 : List AV) (cap_p1 : Capt ca_p1) (hp_p1 : ∀ (y0 : Int) r, p1 y0 = some r → cp fv_p1 ((.v (.int .i64 y0)) :: ca_p1) = some (.v (.bool r))) (H102_0 : ∀ (a0 : List Int) r, slices_IndexFunc_int fu a0 p1 = some r → cp 102 [.arr a0.length (lm (ik .i64) a0), .fn fv_p1 [] ca_p1] = some (.v (.int .i64 r))) : J (go Tryz.prog noC cp noI 0 [] d45 fu (fin Tryz.prog [.tmp 4] [4]) (bodyOf Tryz.f45) (initE 0 [.arr x1.length (lm (ik .i64) x1), .fn fv_p1 [] ca_p1]) [] []) (slices_ContainsFunc_int fu x1 p1) e45 := by
 unfold slices_ContainsFunc_int e45
 have c4_p1 := fun g => (cap_p1.1 g).1; have c3_p1 := fun g => (cap_p1.1 g).2.1; have b4_p1 := fun g => (cap_p1.1 g).2.2.1; have b3_p1 := fun g => (cap_p1.1 g).2.2.2; have nm_p1 := cap_p1.2
 refine J.bind fun x2 h1 => ?_
 have e_h1 := H102_0 _ _ h1
 try simp only [NN, NT, LN, simprocAttr, DT] at e_h1
 refine J.some ?_
 simp (maxSteps := 20000000) (disch := first | exact Zd | fail) only [bodyOf, Tryz.f45, ZZ, d45_at, simprocAttr, c4_p1, c3_p1, b4_p1, b3_p1, nm_p1, e_h1, FF, LN, NN, NT]
noncomputable def t45 (fu : Nat) (x1 : List Int) (p1 : Int → Option Bool) (fv_p1 : FuncId) (ca_p1 : List AV) : CallP := orE 102 (mkC (fun (t : List Int) => ([.arr t.length (lm (ik .i64) t), .fn fv_p1 [] ca_p1] : List AV)) (fun t => slices_IndexFunc_int fu t p1) e102) (orE fv_p1 (mkC (fun (t : Int) => ((.v (.int .i64 t)) :: ca_p1 : List AV)) (fun t => p1 t) (fun r => .v (.bool r))) (noP))
theorem t45_ok (fu : Nat) (x1 : List Int) (p1 : Int → Option Bool) (fv_p1 : FuncId) (ca_p1 : List AV) (cap_p1 : Capt ca_p1) (hp_p1 : ∀ (y0 : Int) r, p1 y0 = some r → PureOK Tryz.prog fv_p1 ((.v (.int .i64 y0)) :: ca_p1) (.v (.bool r))) : CpOK Tryz.prog (t45 fu x1 p1 fv_p1 ca_p1) := orE_ok (orE_ok (noP_ok) (mkC_ok (fun t b h => hp_p1 t b h))) (mkC_ok (fun t b h => ok102 fu t p1 fv_p1 ca_p1 cap_p1 hp_p1 b h))
theorem ok45 (fu : Nat) (x1 : List Int) (p1 : Int → Option Bool) (fv_p1 : FuncId) (ca_p1 : List AV) (cap_p1 : Capt ca_p1) (hp_p1 : ∀ (y0 : Int) r, p1 y0 = some r → PureOK Tryz.prog fv_p1 ((.v (.int .i64 y0)) :: ca_p1) (.v (.bool r))) (r) (h : slices_ContainsFunc_int fu x1 p1 = some r) : PureOK Tryz.prog 45 [.arr x1.length (lm (ik .i64) x1), .fn fv_p1 [] ca_p1] (e45 r) :=
  pure_J mixed (cp := t45 fu x1 p1 fv_p1 ca_p1) (t45_ok fu x1 p1 fv_p1 ca_p1 cap_p1 hp_p1) noI_ok i45 (w45 _ fu x1 p1 fv_p1 ca_p1 cap_p1 (fun y0 r h => orE_skip (fun hfv => mkC_none (by intro t h; simp at h)) (orE_hit (mkC_at (a := y0) (by intro a b h; first | (exact rfl) | (simp only [INJ, IJ] at h; first | exact h | (simp_all [Prod.ext_iff]) )) h))) (fun a0 r h => orE_hit (mkC_at (a := a0) (by intro a b h; first | (exact rfl) | (simp only [INJ, IJ] at h; first | exact h | (simp_all [Prod.ext_iff]) )) h))) h
/-! 46: lattice/shape.Size$1 -/
open Aw (d46)
def d46_at := by have h := tabL Aw.d46.eq_1; simp only [AllAt, Nat.zero_add, Nat.reduceAdd] at h; exact h
theorem i46 : finfo Tryz.prog 46 d46 = some ⟨bodyOf Tryz.f46, [.tmp 2], [4]⟩ := finfo_at Tryz.func46 rfl (by kernel_rfl) (by kernel_rfl)
def e46 : Bool → AV := fun r => .v (.bool r)
set_option maxHeartbeats 20000000 in
theorem w46 (cp : CallP) (fu : Nat) (x1 : Int) : J (go Tryz.prog noC cp noI 0 [] d46 fu (fin Tryz.prog [.tmp 2] [4]) (bodyOf Tryz.f46) (initE 0 [.v (.int .i64 x1)]) [] []) (shape_Size_1 fu x1) e46 := by
 unfold shape_Size_1 e46
 refine J.some ?_
 simp (maxSteps := 20000000) (disch := first | exact Zd | fail) only [bodyOf, Tryz.f46, ZZ, d46_at, simprocAttr, FF, LN, NN, NT]
noncomputable def t46 (fu : Nat) : CallP := noP
theorem t46_ok (fu : Nat) : CpOK Tryz.prog (t46 fu ) := noP_ok
theorem ok46 (fu : Nat) (x1 : Int) (r) (h : shape_Size_1 fu x1 = some r) : PureOK Tryz.prog 46 [.v (.int .i64 x1)] (e46 r) :=
  pure_J mixed (cp := t46 fu ) (t46_ok fu  ) noI_ok i46 (w46 _ fu x1  ) h
/-! 47: lattice/shape.Size$2 -/
open Aw (d47)
def d47_at := by have h := tabL Aw.d47.eq_1; simp only [AllAt, Nat.zero_add, Nat.reduceAdd] at h; exact h
theorem i47 : finfo Tryz.prog 47 d47 = some ⟨bodyOf Tryz.f47, [.tmp 2], [4]⟩ := finfo_at Tryz.func47 rfl (by kernel_rfl) (by kernel_rfl)
def e47 : Bool → AV := fun r => .v (.bool r)
set_option maxHeartbeats 20000000 in
theorem w47 (cp : CallP) (fu : Nat) (x1 : Int) : J (go Tryz.prog noC cp noI 0 [] d47 fu (fin Tryz.prog [.tmp 2] [4]) (bodyOf Tryz.f47) (initE 0 [.v (.int .i64 x1)]) [] []) (shape_Size_2 fu x1) e47 := by
 unfold shape_Size_2 e47
 refine J.some ?_
 simp (maxSteps := 20000000) (disch := first | exact Zd | fail) only [bodyOf, Tryz.f47, ZZ, d47_at, simprocAttr, FF, LN, NN, NT]
noncomputable def t47 (fu : Nat) : CallP := noP
theorem t47_ok (fu : Nat) : CpOK Tryz.prog (t47 fu ) := noP_ok
theorem ok47 (fu : Nat) (x1 : Int) (r) (h : shape_Size_2 fu x1 = some r) : PureOK Tryz.prog 47 [.v (.int .i64 x1)] (e47 r) :=
  pure_J mixed (cp := t47 fu ) (t47_ok fu  ) noI_ok i47 (w47 _ fu x1  ) h
/-! 103: slices.Index[[]int,int] -/
open Aw (d103)
def d103_at := by have h := tabL Aw.d103.eq_1; simp only [AllAt, Nat.zero_add, Nat.reduceAdd] at h; exact h
theorem i103 : finfo Tryz.prog 103 d103 = some ⟨bodyOf Tryz.f103, [.tmp 4], [3]⟩ := finfo_at Tryz.func103 rfl (by kernel_rfl) (by kernel_rfl)
def e103 : Int → AV := fun r => .v (.int .i64 r)
set_option maxHeartbeats 20000000 in
theorem w103 (cp : CallP) (fu : Nat) (x1 : List Int) (x2 : Int) : J (go Tryz.prog noC cp noI 0 [] d103 fu (fin Tryz.prog [.tmp 4] [3]) (bodyOf Tryz.f103) (initE 0 [.arr x1.length (lm (ik .i64) x1), .v (.int .i64 x2)]) [] []) (slices_Index_int fu x1 x2) e103 := by
 unfold slices_Index_int e103
 conv => arg 1; simp (disch := first | exact Zd | fail) only [bodyOf, Tryz.f103, ZZ, d103_at, simprocAttr]
 refine J.eq go_seq ?_
 conv => arg 1; simp (disch := first | exact Zd | fail) only [ZZ, d103_at, simprocAttr]
 unfold slices_Index_int_W1
 refine J.loop (fun (s : Int) => ([(0, .arr x1.length (lm (ik .i64) x1)), (1, .v (.int .i64 x2)), (7, .v (.int .i64 (x1.length : Int))), (8, .v (.int .i64 s))], [])) (fun next s => slices_Index_int_L1 fu x1 x2 next s) (s0 := 0) ?_ ?_ ?_
 ·first | rfl | (simp only [LN, NN, NT])
 ·first | (simp (disch := first | exact Zd | fail) only [RR, simprocAttr, LN, NN, NT]; done) | (simp (disch := first | exact Zd | fail) only [RR, simprocAttr, LN, fm_app, NN, NT]; done) | rfl
 rintro nx1 k1 hn1 x4
 show J _ (slices_Index_int_L1 fu x1 x2 nx1 x4) _
 unfold slices_Index_int_L1
 conv => arg 1; simp (disch := first | exact Zd | fail) only [ZZ, d103_at, simprocAttr]
 refine J.eq go_seq ?_
 conv => arg 1; simp (disch := first | exact Zd | fail) only [ZZ, d103_at, simprocAttr]
 refine J.ite (fun h1 => ?_) (fun h1 => ?_)
 ·have h1' := decide_eq_true h1
  have h1'' : decide ((x1.length : Int) ≤ x4) = false := decide_eq_false (by omega)
  conv => arg 1; simp (disch := first | exact Zd | fail) only [ZZ, d103_at, simprocAttr, h1'', h1']
  refine J.eq ret_seq ?_
  refine J.eq go_seq ?_
  refine J.at fun x6 h2 h3 h4 => ?_
  conv => arg 1; simp (disch := first | exact Zd | fail) only [ZZ, d103_at, simprocAttr, h1'', h1', lm_ik h4]
  refine J.ite (fun h5 => ?_) (fun h5 => ?_)
  ·have h5' := decide_eq_true h5
   refine J.some ?_
   simp (maxSteps := 20000000) (disch := first | exact Zd | fail) only [ZZ, d103_at, simprocAttr, h1'', h1', lm_ik h4, h5', FF, LN, NN, NT]
  ·have h5' := decide_eq_false h5
   conv => arg 1; simp (disch := first | exact Zd | fail) only [ZZ, d103_at, simprocAttr, h1'', h1', lm_ik h4, h5']
   refine J.eq ret_seq ?_
   conv => arg 1; simp (disch := first | exact Zd | fail) only [ZZ, d103_at, simprocAttr, h1'', h1', lm_ik h4, h5']
   refine J.next (s := wk .i64 (x4 + 1)) hn1 ?_ ?_
   ·first | rfl | (simp only [LN, NN, NT])
   ·first | (simp (disch := first | exact Zd | fail) only [RR, simprocAttr, LN, NN, NT]; done) | (simp (disch := first | exact Zd | fail) only [RR, simprocAttr, LN, fm_app, NN, NT]; done) | rfl
 ·have h1' := decide_eq_false h1
  have h1'' : decide ((x1.length : Int) ≤ x4) = true := decide_eq_true (by omega)
  conv => arg 1; simp (disch := first | exact Zd | fail) only [ZZ, d103_at, simprocAttr, h1'', h1']
  refine J.eq ret_seq ?_
  refine J.some ?_
  simp (maxSteps := 20000000) (disch := first | exact Zd | fail) only [ZZ, d103_at, simprocAttr, h1'', h1', FF, LN, NN, NT]
noncomputable def t103 (fu : Nat) : CallP := noP
theorem t103_ok (fu : Nat) : CpOK Tryz.prog (t103 fu ) := noP_ok
theorem ok103 (fu : Nat) (x1 : List Int) (x2 : Int) (r) (h : slices_Index_int fu x1 x2 = some r) : PureOK Tryz.prog 103 [.arr x1.length (lm (ik .i64) x1), .v (.int .i64 x2)] (e103 r) :=
  pure_J mixed (cp := t103 fu ) (t103_ok fu  ) noI_ok i103 (w103 _ fu x1 x2  ) h
/-! 48: slices.Contains[[]int,int] -/
open Aw (d48)
def d48_at := by have h := tabL Aw.d48.eq_1; simp only [AllAt, Nat.zero_add, Nat.reduceAdd] at h; exact h
theorem i48 : finfo Tryz.prog 48 d48 = some ⟨bodyOf Tryz.f48, [.tmp 4], [4]⟩ := finfo_at Tryz.func48 rfl (by kernel_rfl) (by kernel_rfl)
def e48 : Bool → AV := fun r => .v (.bool r)
set_option maxHeartbeats 20000000 in
theorem w48 (cp : CallP) (fu : Nat) (x1 : List Int) (x2 : Int) (H103_0 : ∀ (a0 : List Int) (a1 : Int) r, slices_Index_int fu a0 a1 = some r → cp 103 [.arr a0.length (lm (ik .i64) a0), .v (.int .i64 a1)] = some (.v (.int .i64 r))) : J (go Tryz.prog noC cp noI 0 [] d48 fu (fin Tryz.prog [.tmp 4] [4]) (bodyOf Tryz.f48) (initE 0 [.arr x1.length (lm (ik .i64) x1), .v (.int .i64 x2)]) [] []) (slices_Contains_int fu x1 x2) e48 := by
 unfold slices_Contains_int e48
 refine J.bind fun x3 h1 => ?_
 have e_h1 := H103_0 _ _ _ h1
 try simp only [NN, NT, LN, simprocAttr, DT] at e_h1
 refine J.some ?_
 simp (maxSteps := 20000000) (disch := first | exact Zd | fail) only [bodyOf, Tryz.f48, ZZ, d48_at, simprocAttr, e_h1, FF, LN, NN, NT]
noncomputable def t48 (fu : Nat) : CallP := orE 103 (mkC (fun (t : (List Int) × Int) => ([.arr t.1.length (lm (ik .i64) t.1), .v (.int .i64 t.2)] : List AV)) (fun t => slices_Index_int fu t.1 t.2) e103) (noP)
theorem t48_ok (fu : Nat) : CpOK Tryz.prog (t48 fu ) := orE_ok (noP_ok) (mkC_ok (fun t b h => ok103 fu t.1 t.2  b h))
theorem ok48 (fu : Nat) (x1 : List Int) (x2 : Int) (r) (h : slices_Contains_int fu x1 x2 = some r) : PureOK Tryz.prog 48 [.arr x1.length (lm (ik .i64) x1), .v (.int .i64 x2)] (e48 r) :=
  pure_J mixed (cp := t48 fu ) (t48_ok fu  ) noI_ok i48 (w48 _ fu x1 x2  (fun a0 a1 r h => orE_hit (mkC_at (a := (a0, a1)) (by intro a b h; first | (exact rfl) | (simp only [INJ, IJ] at h; first | exact h | (simp_all [Prod.ext_iff]) )) h))) h
/-! 27: lattice/shape.Size -/
open Aw (d27)
def d27_at := by have h := tabL Aw.d27.eq_1; simp only [AllAt, Nat.zero_add, Nat.reduceAdd] at h; exact h
theorem i27 : finfo Tryz.prog 27 d27 = some ⟨bodyOf Tryz.f27, [.tmp 2, .tmp 3], [3, 35]⟩ := finfo_at Tryz.func27 rfl (by kernel_rfl) (by kernel_rfl)
def e27 : (Int × Int) → AV := fun r => .tuple [.v (.int .i64 r.1), .v (.int .i64 r.2)]
set_option maxHeartbeats 20000000 in
theorem w27 (cp : CallP) (fu : Nat) (x1 : List Int) (H45_0 : ∀ (a0 : List Int) r, slices_ContainsFunc_int fu a0 (fun y0 => shape_Size_1 fu y0) = some r → cp 45 [.arr a0.length (lm (ik .i64) a0), .fn 46 [] []] = some (.v (.bool r))) (H45_1 : ∀ (a0 : List Int) r, slices_ContainsFunc_int fu a0 (fun y0 => shape_Size_2 fu y0) = some r → cp 45 [.arr a0.length (lm (ik .i64) a0), .fn 47 [] []] = some (.v (.bool r))) (H48_0 : ∀ (a0 : List Int) (a1 : Int) r, slices_Contains_int fu a0 a1 = some r → cp 48 [.arr a0.length (lm (ik .i64) a0), .v (.int .i64 a1)] = some (.v (.bool r))) : J (go Tryz.prog noC cp noI 0 [] d27 fu (fin Tryz.prog [.tmp 2, .tmp 3] [3, 35]) (bodyOf Tryz.f27) (initE 0 [.arr x1.length (lm (ik .i64) x1)]) [] []) (shape_Size fu x1) e27 := by
 unfold shape_Size e27
 conv => arg 1; simp (disch := first | exact Zd | fail) only [bodyOf, Tryz.f27, ZZ, d27_at, simprocAttr]
 refine J.eq go_seq ?_
 refine J.bind fun x2 h1 => ?_
 have e_h1 := H45_0 _ _ h1
 try simp only [NN, NT, LN, simprocAttr, DT] at e_h1
 conv => arg 1; simp (disch := first | exact Zd | fail) only [ZZ, d27_at, simprocAttr, e_h1]
 refine J.ite (fun h2 => ?_) (fun h2 => ?_)
 ·have h2' : x2 = true := h2
  refine J.some ?_
  simp (maxSteps := 20000000) (disch := first | exact Zd | fail) only [ZZ, d27_at, simprocAttr, e_h1, h2', FF, LN, NN, NT]
 ·have h2' : x2 = false := Bool.eq_false_iff.2 h2
  conv => arg 1; simp (disch := first | exact Zd | fail) only [ZZ, d27_at, simprocAttr, e_h1, h2']
  refine J.eq ret_seq ?_
  refine J.joinS (fun (t : Unit) => ([(0, .arr x1.length (lm (ik .i64) x1))], [])) (fun t => shape_Size_k1 fu x1) ?_ (fun hj1 => ?_)
  ·rintro ⟨⟩
   show J _ (shape_Size_k1 fu x1) _
   unfold shape_Size_k1
   refine J.eq go_seq ?_
   refine J.bind fun x3 h3 => ?_
   have e_h3 := H48_0 _ _ _ h3
   try simp only [NN, NT, LN, simprocAttr, DT] at e_h3
   conv => arg 1; simp (disch := first | exact Zd | fail) only [ZZ, d27_at, simprocAttr, e_h1, h2', e_h3]
   refine J.ite (fun h4 => ?_) (fun h4 => ?_)
   ·have h4' : x3 = true := h4
    refine J.some ?_
    simp (maxSteps := 20000000) (disch := first | exact Zd | fail) only [ZZ, d27_at, simprocAttr, e_h1, h2', e_h3, h4', FF, LN, NN, NT]
   ·have h4' : x3 = false := Bool.eq_false_iff.2 h4
    conv => arg 1; simp (disch := first | exact Zd | fail) only [ZZ, d27_at, simprocAttr, e_h1, h2', e_h3, h4']
    refine J.eq ret_seq ?_
    conv => arg 1; simp (disch := first | exact Zd | fail) only [ZZ, d27_at, simprocAttr, e_h1, h2', e_h3, h4']
    refine J.eq go_seq ?_
    conv => arg 1; simp (disch := first | exact Zd | fail) only [ZZ, d27_at, simprocAttr, e_h1, h2', e_h3, h4']
    unfold shape_Size_W1
    refine J.loop (fun (s : Int × Int) => ([(4, .v (.int .i64 s.1)), (18, .arr x1.length (lm (ik .i64) x1)), (19, .v (.int .i64 (x1.length : Int))), (20, .v (.int .i64 s.2))], [])) (fun next s => shape_Size_L1 fu x1 (fun x5 x6 => next (x5, x6)) s.1 s.2) (s0 := (1, 0)) ?_ ?_ ?_
    ·first | rfl | (simp only [LN, NN, NT])
    ·first | (simp (disch := first | exact Zd | fail) only [RR, simprocAttr, LN, NN, NT]; done) | (simp (disch := first | exact Zd | fail) only [RR, simprocAttr, LN, fm_app, NN, NT]; done) | rfl
    rintro next k1 hn1 ⟨x5, x6⟩
    let nx1 : Int → Int → Option (Int × Int) := (fun x5 x6 => next (x5, x6))
    show J _ (shape_Size_L1 fu x1 nx1 x5 x6) _
    unfold shape_Size_L1
    conv => arg 1; simp (disch := first | exact Zd | fail) only [ZZ, d27_at, simprocAttr, e_h1, h2', e_h3, h4']
    refine J.eq go_seq ?_
    conv => arg 1; simp (disch := first | exact Zd | fail) only [ZZ, d27_at, simprocAttr, e_h1, h2', e_h3, h4']
    refine J.ite (fun h5 => ?_) (fun h5 => ?_)
    ·have h5' := decide_eq_true h5
     have h5'' : decide ((x1.length : Int) ≤ x6) = false := decide_eq_false (by omega)
     conv => arg 1; simp (disch := first | exact Zd | fail) only [ZZ, d27_at, simprocAttr, e_h1, h2', e_h3, h4', h5'', h5']
     refine J.eq ret_seq ?_
     refine J.eq go_seq ?_
     refine J.at fun x8 h6 h7 h8 => ?_
     conv => arg 1; simp (disch := first | exact Zd | fail) only [ZZ, d27_at, simprocAttr, e_h1, h2', e_h3, h4', h5'', h5', lm_ik h8]
     refine J.eq go_seq ?_
     refine J.chk fun h9 => ?_
     conv => arg 1; simp (disch := first | exact Zd | fail) only [ZZ, d27_at, simprocAttr, e_h1, h2', e_h3, h4', h5'', h5', lm_ik h8]
     refine J.ite (fun h10 => ?_) (fun h10 => ?_)
     ·have h10' := decide_eq_true h10
      have h10'' : decide (x8 ≤ (wk .i64 (Int.tdiv 4096 x5))) = false := decide_eq_false (by omega)
      refine J.some ?_
      simp (maxSteps := 20000000) (disch := first | exact Zd | fail) only [ZZ, d27_at, simprocAttr, e_h1, h2', e_h3, h4', h5'', h5', lm_ik h8, h10'', h10', FF, LN, NN, NT]
     ·have h10' := decide_eq_false h10
      have h10'' : decide (x8 ≤ (wk .i64 (Int.tdiv 4096 x5))) = true := decide_eq_true (by omega)
      conv => arg 1; simp (disch := first | exact Zd | fail) only [ZZ, d27_at, simprocAttr, e_h1, h2', e_h3, h4', h5'', h5', lm_ik h8, h10'', h10']
      refine J.eq ret_seq ?_
      conv => arg 1; simp (disch := first | exact Zd | fail) only [ZZ, d27_at, simprocAttr, e_h1, h2', e_h3, h4', h5'', h5', lm_ik h8, h10'', h10']
      refine J.eq ret_seq ?_
      conv => arg 1; simp (disch := first | exact Zd | fail) only [ZZ, d27_at, simprocAttr, e_h1, h2', e_h3, h4', h5'', h5', lm_ik h8, h10'', h10']
      refine J.next (s := (wk .i64 (x5 * x8), wk .i64 (x6 + 1))) hn1 ?_ ?_
      ·first | rfl | (simp only [LN, NN, NT])
      ·first | (simp (disch := first | exact Zd | fail) only [RR, simprocAttr, LN, NN, NT]; done) | (simp (disch := first | exact Zd | fail) only [RR, simprocAttr, LN, fm_app, NN, NT]; done) | rfl
    ·have h5' := decide_eq_false h5
     have h5'' : decide ((x1.length : Int) ≤ x6) = true := decide_eq_true (by omega)
     conv => arg 1; simp (disch := first | exact Zd | fail) only [ZZ, d27_at, simprocAttr, e_h1, h2', e_h3, h4', h5'', h5']
     refine J.eq ret_seq ?_
     refine J.some ?_
     simp (maxSteps := 20000000) (disch := first | exact Zd | fail) only [ZZ, d27_at, simprocAttr, e_h1, h2', e_h3, h4', h5'', h5', FF, LN, NN, NT]
  ·refine J.eq go_seq ?_
   conv => arg 1; simp (disch := first | exact Zd | fail) only [ZZ, d27_at, simprocAttr, e_h1, h2']
   refine J.ite (fun h11 => ?_) (fun h11 => ?_)
   ·have h11' := decide_eq_true h11
    have h11'' : decide ((x1.length : Int) ≤ 8) = false := decide_eq_false (by omega)
    conv => arg 1; simp (disch := first | exact Zd | fail) only [ZZ, d27_at, simprocAttr, e_h1, h2', h11'', h11']
    refine J.eq ret_seq ?_
    refine J.some ?_
    simp (maxSteps := 20000000) (disch := first | exact Zd | fail) only [ZZ, d27_at, simprocAttr, e_h1, h2', h11'', h11', FF, LN, NN, NT]
   ·have h11' := decide_eq_false h11
    have h11'' : decide ((x1.length : Int) ≤ 8) = true := decide_eq_true (by omega)
    refine J.bind fun x9 h12 => ?_
    have e_h12 := H45_1 _ _ h12
    try simp only [NN, NT, LN, simprocAttr, DT] at e_h12
    conv => arg 1; simp (disch := first | exact Zd | fail) only [ZZ, d27_at, simprocAttr, e_h1, h2', h11'', h11', e_h12]
    refine J.eq ret_seq ?_
    conv => arg 1; simp (disch := first | exact Zd | fail) only [ZZ, d27_at, simprocAttr, e_h1, h2', h11'', h11', e_h12]
    refine J.ite (fun h13 => ?_) (fun h13 => ?_)
    ·have h13' : x9 = true := h13
     refine J.some ?_
     simp (maxSteps := 20000000) (disch := first | exact Zd | fail) only [ZZ, d27_at, simprocAttr, e_h1, h2', h11'', h11', e_h12, h13', FF, LN, NN, NT]
    ·have h13' : x9 = false := Bool.eq_false_iff.2 h13
     conv => arg 1; simp (disch := first | exact Zd | fail) only [ZZ, d27_at, simprocAttr, e_h1, h2', h11'', h11', e_h12, h13']
     refine J.jmp (t := ()) hj1 ?_ ?_
     ·first | rfl | (simp only [LN, NN, NT])
     ·first | (simp (disch := first | exact Zd | fail) only [RR, simprocAttr, LN, NN, NT]; done) | (simp (disch := first | exact Zd | fail) only [RR, simprocAttr, LN, fm_app, NN, NT]; done) | rfl
noncomputable def t27 (fu : Nat) : CallP := orE 45 (mkC (fun (t : List Int) => ([.arr t.length (lm (ik .i64) t), .fn 46 [] []] : List AV)) (fun t => slices_ContainsFunc_int fu t (fun y0 => shape_Size_1 fu y0)) e45) (orE 45 (mkC (fun (t : List Int) => ([.arr t.length (lm (ik .i64) t), .fn 47 [] []] : List AV)) (fun t => slices_ContainsFunc_int fu t (fun y0 => shape_Size_2 fu y0)) e45) (orE 48 (mkC (fun (t : (List Int) × Int) => ([.arr t.1.length (lm (ik .i64) t.1), .v (.int .i64 t.2)] : List AV)) (fun t => slices_Contains_int fu t.1 t.2) e48) (noP)))
theorem t27_ok (fu : Nat) : CpOK Tryz.prog (t27 fu ) := orE_ok (orE_ok (orE_ok (noP_ok) (mkC_ok (fun t b h => ok48 fu t.1 t.2  b h))) (mkC_ok (fun t b h => ok45 fu t (fun y0 => shape_Size_2 fu y0) 47 [] Capt.nil (fun y0 r h => ok47 fu y0  r h) b h))) (mkC_ok (fun t b h => ok45 fu t (fun y0 => shape_Size_1 fu y0) 46 [] Capt.nil (fun y0 r h => ok46 fu y0  r h) b h))
theorem ok27 (fu : Nat) (x1 : List Int) (r) (h : shape_Size fu x1 = some r) : PureOK Tryz.prog 27 [.arr x1.length (lm (ik .i64) x1)] (e27 r) :=
  pure_J mixed (cp := t27 fu ) (t27_ok fu  ) noI_ok i27 (w27 _ fu x1  (fun a0 r h => orE_hit (mkC_at (a := a0) (by intro a b h; first | (exact rfl) | (simp only [INJ, IJ] at h; first | exact h | (simp_all [Prod.ext_iff]) )) h)) (fun a0 r h => orE_next (mkC_none (by intro t h; simp at h)) (orE_hit (mkC_at (a := a0) (by intro a b h; first | (exact rfl) | (simp only [INJ, IJ] at h; first | exact h | (simp_all [Prod.ext_iff]) )) h))) (fun a0 a1 r h => orE_miss (by decide) (orE_miss (by decide) (orE_hit (mkC_at (a := (a0, a1)) (by intro a b h; first | (exact rfl) | (simp only [INJ, IJ] at h; first | exact h | (simp_all [Prod.ext_iff]) )) h))))) h
/-! 23: lattice/tens.Check -/
open Aw (d23)
def d23_at := by have h := tabL Aw.d23.eq_1; simp only [AllAt, Nat.zero_add, Nat.reduceAdd] at h; exact h
theorem i23 : finfo Tryz.prog 23 d23 = some ⟨bodyOf Tryz.f23, [.tmp 2], [35]⟩ := finfo_at Tryz.func23 rfl (by kernel_rfl) (by kernel_rfl)
def e23 : Int → AV := fun r => .v (.int .i64 r)
set_option maxHeartbeats 20000000 in
theorem w23 (cp : CallP) (fu : Nat) (x1 : T_Tensor) (H37_0 : ∀ (a0 : Int) r, tens_known fu a0 = some r → cp 37 [.v (.int .i64 a0)] = some (.v (.bool r))) (H27_0 : ∀ (a0 : List Int) r, shape_Size fu a0 = some r → cp 27 [.arr a0.length (lm (ik .i64) a0)] = some (.tuple [.v (.int .i64 r.1), .v (.int .i64 r.2)])) : J (go Tryz.prog noC cp noI 0 [] d23 fu (fin Tryz.prog [.tmp 2] [35]) (bodyOf Tryz.f23) (initE 0 [.agg (c_T_Tensor x1)]) [] []) (tens_Check fu x1) e23 := by
 unfold tens_Check e23
 conv => arg 1; simp (disch := first | exact Zd | fail) only [bodyOf, Tryz.f23, ZZ, d23_at, simprocAttr]
 refine J.eq go_seq ?_
 refine J.bind fun x2 h1 => ?_
 have e_h1 := H37_0 _ _ h1
 try simp only [NN, NT, LN, simprocAttr, DT] at e_h1
 conv => arg 1; simp (disch := first | exact Zd | fail) only [ZZ, d23_at, simprocAttr, e_h1]
 refine J.ite (fun h2 => ?_) (fun h2 => ?_)
 ·have h2' : x2 = true := h2
  conv => arg 1; simp (disch := first | exact Zd | fail) only [ZZ, d23_at, simprocAttr, e_h1, h2']
  refine J.eq ret_seq ?_
  refine J.bind fun x3 h3 => ?_
  have e_h3 := H27_0 _ _ h3
  try simp only [NN, NT, LN, simprocAttr, DT] at e_h3
  conv => arg 1; simp (disch := first | exact Zd | fail) only [ZZ, d23_at, simprocAttr, e_h1, h2', e_h3]
  refine J.eq go_seq ?_
  conv => arg 1; simp (disch := first | exact Zd | fail) only [ZZ, d23_at, simprocAttr, e_h1, h2', e_h3]
  refine J.ite (fun h4 => ?_) (fun h4 => ?_)
  ·have h4' := decide_eq_true h4
   conv => arg 1; simp (disch := first | exact Zd | fail) only [ZZ, d23_at, simprocAttr, e_h1, h2', e_h3, h4']
   refine J.eq ret_seq ?_
   conv => arg 1; simp (disch := first | exact Zd | fail) only [ZZ, d23_at, simprocAttr, e_h1, h2', e_h3, h4']
   refine J.joinS (fun (t : Int) => ([(1, .ptr (0, 1, 0) 0 0), (3, .v (.int .i64 x3.1)), (5, .v (.int .i64 t))], [((0, 1, 0), .bx true ([.v (.int .i64 x1.fType), .arr x1.fDims.length (lm (ik .i64) x1.fDims), .arr x1.fF.length (lm (ik .u32) x1.fF), .arr x1.fI.length (lm (ik .i64) x1.fI), .arr x1.fB.length (lm (bk) x1.fB)]))])) (fun t => tens_Check_k1 fu x1 x3 t) ?_ (fun hj1 => ?_)
   ·rintro x4
    show J _ (tens_Check_k1 fu x1 x3 x4) _
    unfold tens_Check_k1
    refine J.eq go_seq ?_
    refine J.eq go_seq ?_
    conv => arg 1; simp (disch := first | exact Zd | fail) only [ZZ, d23_at, simprocAttr, e_h1, h2', e_h3, h4']
    refine J.ite (fun h5 => ?_) (fun h5 => ?_)
    ·have h5' := decide_eq_true h5
     conv => arg 1; simp (disch := first | exact Zd | fail) only [ZZ, d23_at, simprocAttr, e_h1, h2', e_h3, h4', h5']
     refine J.eq ret_seq ?_
     conv => arg 1; simp (disch := first | exact Zd | fail) only [ZZ, d23_at, simprocAttr, e_h1, h2', e_h3, h4', h5']
     refine J.ite (fun h6 => ?_) (fun h6 => ?_)
     ·have h6' := decide_eq_true h6
      conv => arg 1; simp (disch := first | exact Zd | fail) only [ZZ, d23_at, simprocAttr, e_h1, h2', e_h3, h4', h5', h6']
      refine J.eq ret_seq ?_
      refine J.some ?_
      simp (maxSteps := 20000000) (disch := first | exact Zd | fail) only [ZZ, d23_at, simprocAttr, e_h1, h2', e_h3, h4', h5', h6', FF, LN, NN, NT]
     ·have h6' := decide_eq_false h6
      refine J.some ?_
      simp (maxSteps := 20000000) (disch := first | exact Zd | fail) only [ZZ, d23_at, simprocAttr, e_h1, h2', e_h3, h4', h5', h6', FF, LN, NN, NT]
    ·have h5' := decide_eq_false h5
     conv => arg 1; simp (disch := first | exact Zd | fail) only [ZZ, d23_at, simprocAttr, e_h1, h2', e_h3, h4', h5']
     refine J.eq ret_seq ?_
     refine J.some ?_
     simp (maxSteps := 20000000) (disch := first | exact Zd | fail) only [ZZ, d23_at, simprocAttr, e_h1, h2', e_h3, h4', h5', FF, LN, NN, NT]
   ·conv => arg 1; simp (disch := first | exact Zd | fail) only [ZZ, d23_at, simprocAttr, e_h1, h2', e_h3, h4']
    refine J.ite (fun h7 => ?_) (fun h7 => ?_)
    ·have h7' := decide_eq_true h7
     conv => arg 1; simp (disch := first | exact Zd | fail) only [ZZ, d23_at, simprocAttr, e_h1, h2', e_h3, h4', h7']
     refine J.jmp (t := (x1.fI.length : Int)) hj1 ?_ ?_
     ·first | rfl | (simp only [LN, NN, NT])
     ·first | (simp (disch := first | exact Zd | fail) only [RR, simprocAttr, LN, NN, NT]; done) | (simp (disch := first | exact Zd | fail) only [RR, simprocAttr, LN, fm_app, NN, NT]; done) | rfl
    ·have h7' := decide_eq_false h7
     conv => arg 1; simp (disch := first | exact Zd | fail) only [ZZ, d23_at, simprocAttr, e_h1, h2', e_h3, h4', h7']
     refine J.ite (fun h8 => ?_) (fun h8 => ?_)
     ·have h8' := decide_eq_true h8
      conv => arg 1; simp (disch := first | exact Zd | fail) only [ZZ, d23_at, simprocAttr, e_h1, h2', e_h3, h4', h7', h8']
      refine J.jmp (t := (x1.fB.length : Int)) hj1 ?_ ?_
      ·first | rfl | (simp only [LN, NN, NT])
      ·first | (simp (disch := first | exact Zd | fail) only [RR, simprocAttr, LN, NN, NT]; done) | (simp (disch := first | exact Zd | fail) only [RR, simprocAttr, LN, fm_app, NN, NT]; done) | rfl
     ·have h8' := decide_eq_false h8
      conv => arg 1; simp (disch := first | exact Zd | fail) only [ZZ, d23_at, simprocAttr, e_h1, h2', e_h3, h4', h7', h8']
      refine J.jmp (t := (x1.fF.length : Int)) hj1 ?_ ?_
      ·first | rfl | (simp only [LN, NN, NT])
      ·first | (simp (disch := first | exact Zd | fail) only [RR, simprocAttr, LN, NN, NT]; done) | (simp (disch := first | exact Zd | fail) only [RR, simprocAttr, LN, fm_app, NN, NT]; done) | rfl
  ·have h4' := decide_eq_false h4
   refine J.some ?_
   simp (maxSteps := 20000000) (disch := first | exact Zd | fail) only [ZZ, d23_at, simprocAttr, e_h1, h2', e_h3, h4', FF, LN, NN, NT]
 ·have h2' : x2 = false := Bool.eq_false_iff.2 h2
  refine J.some ?_
  simp (maxSteps := 20000000) (disch := first | exact Zd | fail) only [ZZ, d23_at, simprocAttr, e_h1, h2', FF, LN, NN, NT]
noncomputable def t23 (fu : Nat) : CallP := orE 37 (mkC (fun (t : Int) => ([.v (.int .i64 t)] : List AV)) (fun t => tens_known fu t) e37) (orE 27 (mkC (fun (t : List Int) => ([.arr t.length (lm (ik .i64) t)] : List AV)) (fun t => shape_Size fu t) e27) (noP))
theorem t23_ok (fu : Nat) : CpOK Tryz.prog (t23 fu ) := orE_ok (orE_ok (noP_ok) (mkC_ok (fun t b h => ok27 fu t  b h))) (mkC_ok (fun t b h => ok37 fu t  b h))
theorem ok23 (fu : Nat) (x1 : T_Tensor) (r) (h : tens_Check fu x1 = some r) : PureOK Tryz.prog 23 [.agg (c_T_Tensor x1)] (e23 r) :=
  pure_J mixed (cp := t23 fu ) (t23_ok fu  ) noI_ok i23 (w23 _ fu x1  (fun a0 r h => orE_hit (mkC_at (a := a0) (by intro a b h; first | (exact rfl) | (simp only [INJ, IJ] at h; first | exact h | (simp_all [Prod.ext_iff]) )) h)) (fun a0 r h => orE_miss (by decide) (orE_hit (mkC_at (a := a0) (by intro a b h; first | (exact rfl) | (simp only [INJ, IJ] at h; first | exact h | (simp_all [Prod.ext_iff]) )) h)))) h
/-! 79: lattice/tens.own[int] -/
open Aw (d79)
def d79_at := by have h := tabL Aw.d79.eq_1; simp only [AllAt, Nat.zero_add, Nat.reduceAdd] at h; exact h
theorem i79 : finfo Tryz.prog 79 d79 = some ⟨bodyOf Tryz.f79, [.tmp 2], [27]⟩ := finfo_at Tryz.func79 rfl (by kernel_rfl) (by kernel_rfl)
def e79 : (List Int) → AV := fun r => .fresh 1 r.length (lm (ik .i64) r)
set_option maxHeartbeats 20000000 in
theorem w79 (cp : CallP) (fu : Nat) (x1 : List Int) : J (go Tryz.prog noC cp noI 0 [] d79 fu (fin Tryz.prog [.tmp 2] [27]) (bodyOf Tryz.f79) (initE 0 [.arr x1.length (lm (ik .i64) x1)]) [] []) (tens_own_int fu x1) e79 := by
 unfold tens_own_int e79
 refine J.chk fun h1 => ?_
 refine J.some ?_
 simp (maxSteps := 20000000) (disch := first | exact Zd | fail) only [bodyOf, Tryz.f79, ZZ, d79_at, simprocAttr, FF, LN, NN, NT]
noncomputable def t79 (fu : Nat) : CallP := noP
theorem t79_ok (fu : Nat) : CpOK Tryz.prog (t79 fu ) := noP_ok
theorem ok79 (fu : Nat) (x1 : List Int) (r) (h : tens_own_int fu x1 = some r) : PureOK Tryz.prog 79 [.arr x1.length (lm (ik .i64) x1)] (e79 r) :=
  pure_J mixed (cp := t79 fu ) (t79_ok fu  ) noI_ok i79 (w79 _ fu x1  ) h
/-! 80: lattice/tens.own[uint32] -/
open Aw (d80)
def d80_at := by have h := tabL Aw.d80.eq_1; simp only [AllAt, Nat.zero_add, Nat.reduceAdd] at h; exact h
theorem i80 : finfo Tryz.prog 80 d80 = some ⟨bodyOf Tryz.f80, [.tmp 2], [22]⟩ := finfo_at Tryz.func80 rfl (by kernel_rfl) (by kernel_rfl)
def e80 : (List Int) → AV := fun r => .fresh 1 r.length (lm (ik .u32) r)
set_option maxHeartbeats 20000000 in
theorem w80 (cp : CallP) (fu : Nat) (x1 : List Int) : J (go Tryz.prog noC cp noI 0 [] d80 fu (fin Tryz.prog [.tmp 2] [22]) (bodyOf Tryz.f80) (initE 0 [.arr x1.length (lm (ik .u32) x1)]) [] []) (tens_own_uint32 fu x1) e80 := by
 unfold tens_own_uint32 e80
 refine J.chk fun h1 => ?_
 refine J.some ?_
 simp (maxSteps := 20000000) (disch := first | exact Zd | fail) only [bodyOf, Tryz.f80, ZZ, d80_at, simprocAttr, FF, LN, NN, NT]
noncomputable def t80 (fu : Nat) : CallP := noP
theorem t80_ok (fu : Nat) : CpOK Tryz.prog (t80 fu ) := noP_ok
theorem ok80 (fu : Nat) (x1 : List Int) (r) (h : tens_own_uint32 fu x1 = some r) : PureOK Tryz.prog 80 [.arr x1.length (lm (ik .u32) x1)] (e80 r) :=
  pure_J mixed (cp := t80 fu ) (t80_ok fu  ) noI_ok i80 (w80 _ fu x1  ) h
/-! 81: lattice/tens.own[int64] -/
open Aw (d81)
def d81_at := by have h := tabL Aw.d81.eq_1; simp only [AllAt, Nat.zero_add, Nat.reduceAdd] at h; exact h
theorem i81 : finfo Tryz.prog 81 d81 = some ⟨bodyOf Tryz.f81, [.tmp 2], [28]⟩ := finfo_at Tryz.func81 rfl (by kernel_rfl) (by kernel_rfl)
def e81 : (List Int) → AV := fun r => .fresh 1 r.length (lm (ik .i64) r)
set_option maxHeartbeats 20000000 in
theorem w81 (cp : CallP) (fu : Nat) (x1 : List Int) : J (go Tryz.prog noC cp noI 0 [] d81 fu (fin Tryz.prog [.tmp 2] [28]) (bodyOf Tryz.f81) (initE 0 [.arr x1.length (lm (ik .i64) x1)]) [] []) (tens_own_int64 fu x1) e81 := by
 unfold tens_own_int64 e81
 refine J.chk fun h1 => ?_
 refine J.some ?_
 simp (maxSteps := 20000000) (disch := first | exact Zd | fail) only [bodyOf, Tryz.f81, ZZ, d81_at, simprocAttr, FF, LN, NN, NT]
noncomputable def t81 (fu : Nat) : CallP := noP
theorem t81_ok (fu : Nat) : CpOK Tryz.prog (t81 fu ) := noP_ok
theorem ok81 (fu : Nat) (x1 : List Int) (r) (h : tens_own_int64 fu x1 = some r) : PureOK Tryz.prog 81 [.arr x1.length (lm (ik .i64) x1)] (e81 r) :=
  pure_J mixed (cp := t81 fu ) (t81_ok fu  ) noI_ok i81 (w81 _ fu x1  ) h
/-! 82: lattice/tens.own[bool] -/
open Aw (d82)
def d82_at := by have h := tabL Aw.d82.eq_1; simp only [AllAt, Nat.zero_add, Nat.reduceAdd] at h; exact h
theorem i82 : finfo Tryz.prog 82 d82 = some ⟨bodyOf Tryz.f82, [.tmp 2], [29]⟩ := finfo_at Tryz.func82 rfl (by kernel_rfl) (by kernel_rfl)
def e82 : (List Bool) → AV := fun r => .fresh 1 r.length (lm (bk) r)
set_option maxHeartbeats 20000000 in
theorem w82 (cp : CallP) (fu : Nat) (x1 : List Bool) : J (go Tryz.prog noC cp noI 0 [] d82 fu (fin Tryz.prog [.tmp 2] [29]) (bodyOf Tryz.f82) (initE 0 [.arr x1.length (lm (bk) x1)]) [] []) (tens_own_bool fu x1) e82 := by
 unfold tens_own_bool e82
 refine J.chk fun h1 => ?_
 refine J.some ?_
 simp (maxSteps := 20000000) (disch := first | exact Zd | fail) only [bodyOf, Tryz.f82, ZZ, d82_at, simprocAttr, FF, LN, NN, NT]
noncomputable def t82 (fu : Nat) : CallP := noP
theorem t82_ok (fu : Nat) : CpOK Tryz.prog (t82 fu ) := noP_ok
theorem ok82 (fu : Nat) (x1 : List Bool) (r) (h : tens_own_bool fu x1 = some r) : PureOK Tryz.prog 82 [.arr x1.length (lm (bk) x1)] (e82 r) :=
  pure_J mixed (cp := t82 fu ) (t82_ok fu  ) noI_ok i82 (w82 _ fu x1  ) h
/-! 38: lattice/tens.Copy -/
open Aw (d38)
def d38_at := by have h := tabL Aw.d38.eq_1; simp only [AllAt, Nat.zero_add, Nat.reduceAdd] at h; exact h
theorem i38 : finfo Tryz.prog 38 d38 = some ⟨bodyOf Tryz.f38, [.cell 2 31], [31]⟩ := finfo_at Tryz.func38 rfl (by kernel_rfl) (by kernel_rfl)
def e38 : T_Tensor → AV := fun r => .agg [.v (.int .i64 r.fType), .fresh 1 r.fDims.length (lm (ik .i64) r.fDims), .fresh 1 r.fF.length (lm (ik .u32) r.fF), .fresh 1 r.fI.length (lm (ik .i64) r.fI), .fresh 1 r.fB.length (lm (bk) r.fB)]
set_option maxHeartbeats 20000000 in
theorem w38 (cp : CallP) (fu : Nat) (x1 : T_Tensor) (H79_0 : ∀ (a0 : List Int) r, tens_own_int fu a0 = some r → cp 79 [.arr a0.length (lm (ik .i64) a0)] = some (.fresh 1 r.length (lm (ik .i64) r))) (H80_0 : ∀ (a0 : List Int) r, tens_own_uint32 fu a0 = some r → cp 80 [.arr a0.length (lm (ik .u32) a0)] = some (.fresh 1 r.length (lm (ik .u32) r))) (H81_0 : ∀ (a0 : List Int) r, tens_own_int64 fu a0 = some r → cp 81 [.arr a0.length (lm (ik .i64) a0)] = some (.fresh 1 r.length (lm (ik .i64) r))) (H82_0 : ∀ (a0 : List Bool) r, tens_own_bool fu a0 = some r → cp 82 [.arr a0.length (lm (bk) a0)] = some (.fresh 1 r.length (lm (bk) r))) : J (go Tryz.prog noC cp noI 0 [] d38 fu (fin Tryz.prog [.cell 2 31] [31]) (bodyOf Tryz.f38) (initE 0 [.agg (c_T_Tensor x1)]) [] []) (tens_Copy fu x1) e38 := by
 unfold tens_Copy e38
 refine J.bind fun x2 h1 => ?_
 have e_h1 := H79_0 _ _ h1
 try simp only [NN, NT, LN, simprocAttr, DT] at e_h1
 refine J.bind fun x3 h2 => ?_
 have e_h2 := H80_0 _ _ h2
 try simp only [NN, NT, LN, simprocAttr, DT] at e_h2
 refine J.bind fun x4 h3 => ?_
 have e_h3 := H81_0 _ _ h3
 try simp only [NN, NT, LN, simprocAttr, DT] at e_h3
 refine J.bind fun x5 h4 => ?_
 have e_h4 := H82_0 _ _ h4
 try simp only [NN, NT, LN, simprocAttr, DT] at e_h4
 refine J.some ?_
 simp (maxSteps := 20000000) (disch := first | exact Zd | fail) only [bodyOf, Tryz.f38, ZZ, d38_at, simprocAttr, e_h1, e_h2, e_h3, e_h4, FF, LN, NN, NT]
noncomputable def t38 (fu : Nat) : CallP := orE 79 (mkC (fun (t : List Int) => ([.arr t.length (lm (ik .i64) t)] : List AV)) (fun t => tens_own_int fu t) e79) (orE 80 (mkC (fun (t : List Int) => ([.arr t.length (lm (ik .u32) t)] : List AV)) (fun t => tens_own_uint32 fu t) e80) (orE 81 (mkC (fun (t : List Int) => ([.arr t.length (lm (ik .i64) t)] : List AV)) (fun t => tens_own_int64 fu t) e81) (orE 82 (mkC (fun (t : List Bool) => ([.arr t.length (lm (bk) t)] : List AV)) (fun t => tens_own_bool fu t) e82) (noP))))
theorem t38_ok (fu : Nat) : CpOK Tryz.prog (t38 fu ) := orE_ok (orE_ok (orE_ok (orE_ok (noP_ok) (mkC_ok (fun t b h => ok82 fu t  b h))) (mkC_ok (fun t b h => ok81 fu t  b h))) (mkC_ok (fun t b h => ok80 fu t  b h))) (mkC_ok (fun t b h => ok79 fu t  b h))
theorem ok38 (fu : Nat) (x1 : T_Tensor) (r) (h : tens_Copy fu x1 = some r) : PureOK Tryz.prog 38 [.agg (c_T_Tensor x1)] (e38 r) :=
  pure_J mixed (cp := t38 fu ) (t38_ok fu  ) noI_ok i38 (w38 _ fu x1  (fun a0 r h => orE_hit (mkC_at (a := a0) (by intro a b h; first | (exact rfl) | (simp only [INJ, IJ] at h; first | exact h | (simp_all [Prod.ext_iff]) )) h)) (fun a0 r h => orE_miss (by decide) (orE_hit (mkC_at (a := a0) (by intro a b h; first | (exact rfl) | (simp only [INJ, IJ] at h; first | exact h | (simp_all [Prod.ext_iff]) )) h))) (fun a0 r h => orE_miss (by decide) (orE_miss (by decide) (orE_hit (mkC_at (a := a0) (by intro a b h; first | (exact rfl) | (simp only [INJ, IJ] at h; first | exact h | (simp_all [Prod.ext_iff]) )) h)))) (fun a0 r h => orE_miss (by decide) (orE_miss (by decide) (orE_miss (by decide) (orE_hit (mkC_at (a := a0) (by intro a b h; first | (exact rfl) | (simp only [INJ, IJ] at h; first | exact h | (simp_all [Prod.ext_iff]) )) h)))))) h
/-! 133: lattice/soft.Abs -/
open Aw (d133)
def d133_at := by have h := tabL Aw.d133.eq_1; simp only [AllAt, Nat.zero_add, Nat.reduceAdd] at h; exact h
theorem i133 : finfo Tryz.prog 133 d133 = some ⟨bodyOf Tryz.f133, [.tmp 2], [24]⟩ := finfo_at Tryz.func133 rfl (by kernel_rfl) (by kernel_rfl)
def e133 : Int → AV := fun r => .v (.int .u32 r)
set_option maxHeartbeats 20000000 in
theorem w133 (cp : CallP) (fu : Nat) (x1 : Int) : J (go Tryz.prog noC cp noI 0 [] d133 fu (fin Tryz.prog [.tmp 2] [24]) (bodyOf Tryz.f133) (initE 0 [.v (.int .u32 x1)]) [] []) (soft_Abs fu x1) e133 := by
 unfold soft_Abs e133
 refine J.some ?_
 simp (maxSteps := 20000000) (disch := first | exact Zd | fail) only [bodyOf, Tryz.f133, ZZ, d133_at, simprocAttr, FF, LN, NN, NT]
noncomputable def t133 (fu : Nat) : CallP := noP
theorem t133_ok (fu : Nat) : CpOK Tryz.prog (t133 fu ) := noP_ok
theorem ok133 (fu : Nat) (x1 : Int) (r) (h : soft_Abs fu x1 = some r) : PureOK Tryz.prog 133 [.v (.int .u32 x1)] (e133 r) :=
  pure_J mixed (cp := t133 fu ) (t133_ok fu  ) noI_ok i133 (w133 _ fu x1  ) h
/-! 83: lattice/soft.NaN -/
open Aw (d83)
def d83_at := by have h := tabL Aw.d83.eq_1; simp only [AllAt, Nat.zero_add, Nat.reduceAdd] at h; exact h
theorem i83 : finfo Tryz.prog 83 d83 = some ⟨bodyOf Tryz.f83, [.tmp 2], [4]⟩ := finfo_at Tryz.func83 rfl (by kernel_rfl) (by kernel_rfl)
def e83 : Bool → AV := fun r => .v (.bool r)
set_option maxHeartbeats 20000000 in
theorem w83 (cp : CallP) (fu : Nat) (x1 : Int) (H133_0 : ∀ (a0 : Int) r, soft_Abs fu a0 = some r → cp 133 [.v (.int .u32 a0)] = some (.v (.int .u32 r))) : J (go Tryz.prog noC cp noI 0 [] d83 fu (fin Tryz.prog [.tmp 2] [4]) (bodyOf Tryz.f83) (initE 0 [.v (.int .u32 x1)]) [] []) (soft_NaN fu x1) e83 := by
 unfold soft_NaN e83
 refine J.bind fun x2 h1 => ?_
 have e_h1 := H133_0 _ _ h1
 try simp only [NN, NT, LN, simprocAttr, DT] at e_h1
 refine J.some ?_
 simp (maxSteps := 20000000) (disch := first | exact Zd | fail) only [bodyOf, Tryz.f83, ZZ, d83_at, simprocAttr, e_h1, FF, LN, NN, NT]
noncomputable def t83 (fu : Nat) : CallP := orE 133 (mkC (fun (t : Int) => ([.v (.int .u32 t)] : List AV)) (fun t => soft_Abs fu t) e133) (noP)
theorem t83_ok (fu : Nat) : CpOK Tryz.prog (t83 fu ) := orE_ok (noP_ok) (mkC_ok (fun t b h => ok133 fu t  b h))
theorem ok83 (fu : Nat) (x1 : Int) (r) (h : soft_NaN fu x1 = some r) : PureOK Tryz.prog 83 [.v (.int .u32 x1)] (e83 r) :=
  pure_J mixed (cp := t83 fu ) (t83_ok fu  ) noI_ok i83 (w83 _ fu x1  (fun a0 r h => orE_hit (mkC_at (a := a0) (by intro a b h; first | (exact rfl) | (simp only [INJ, IJ] at h; first | exact h | (simp_all [Prod.ext_iff]) )) h))) h
/-! 39: lattice/soft.Canon -/
open Aw (d39)
def d39_at := by have h := tabL Aw.d39.eq_1; simp only [AllAt, Nat.zero_add, Nat.reduceAdd] at h; exact h
theorem i39 : finfo Tryz.prog 39 d39 = some ⟨bodyOf Tryz.f39, [.tmp 2], [24]⟩ := finfo_at Tryz.func39 rfl (by kernel_rfl) (by kernel_rfl)
def e39 : Int → AV := fun r => .v (.int .u32 r)
set_option maxHeartbeats 20000000 in
theorem w39 (cp : CallP) (fu : Nat) (x1 : Int) (H83_0 : ∀ (a0 : Int) r, soft_NaN fu a0 = some r → cp 83 [.v (.int .u32 a0)] = some (.v (.bool r))) : J (go Tryz.prog noC cp noI 0 [] d39 fu (fin Tryz.prog [.tmp 2] [24]) (bodyOf Tryz.f39) (initE 0 [.v (.int .u32 x1)]) [] []) (soft_Canon fu x1) e39 := by
 unfold soft_Canon e39
 conv => arg 1; simp (disch := first | exact Zd | fail) only [bodyOf, Tryz.f39, ZZ, d39_at, simprocAttr]
 refine J.eq go_seq ?_
 refine J.bind fun x2 h1 => ?_
 have e_h1 := H83_0 _ _ h1
 try simp only [NN, NT, LN, simprocAttr, DT] at e_h1
 conv => arg 1; simp (disch := first | exact Zd | fail) only [ZZ, d39_at, simprocAttr, e_h1]
 refine J.ite (fun h2 => ?_) (fun h2 => ?_)
 ·have h2' : x2 = true := h2
  refine J.some ?_
  simp (maxSteps := 20000000) (disch := first | exact Zd | fail) only [ZZ, d39_at, simprocAttr, e_h1, h2', FF, LN, NN, NT]
 ·have h2' : x2 = false := Bool.eq_false_iff.2 h2
  conv => arg 1; simp (disch := first | exact Zd | fail) only [ZZ, d39_at, simprocAttr, e_h1, h2']
  refine J.eq ret_seq ?_
  refine J.some ?_
  simp (maxSteps := 20000000) (disch := first | exact Zd | fail) only [ZZ, d39_at, simprocAttr, e_h1, h2', FF, LN, NN, NT]
noncomputable def t39 (fu : Nat) : CallP := orE 83 (mkC (fun (t : Int) => ([.v (.int .u32 t)] : List AV)) (fun t => soft_NaN fu t) e83) (noP)
theorem t39_ok (fu : Nat) : CpOK Tryz.prog (t39 fu ) := orE_ok (noP_ok) (mkC_ok (fun t b h => ok83 fu t  b h))
theorem ok39 (fu : Nat) (x1 : Int) (r) (h : soft_Canon fu x1 = some r) : PureOK Tryz.prog 39 [.v (.int .u32 x1)] (e39 r) :=
  pure_J mixed (cp := t39 fu ) (t39_ok fu  ) noI_ok i39 (w39 _ fu x1  (fun a0 r h => orE_hit (mkC_at (a := a0) (by intro a b h; first | (exact rfl) | (simp only [INJ, IJ] at h; first | exact h | (simp_all [Prod.ext_iff]) )) h))) h
/-! 24: lattice/tens.Canon -/
open Aw (d24)
def d24_at := by have h := tabL Aw.d24.eq_1; simp only [AllAt, Nat.zero_add, Nat.reduceAdd] at h; exact h
theorem i24 : finfo Tryz.prog 24 d24 = some ⟨bodyOf Tryz.f24, [.cell 2 31], [31]⟩ := finfo_at Tryz.func24 rfl (by kernel_rfl) (by kernel_rfl)
def e24 : T_Tensor → AV := fun r => .agg [.v (.int .i64 r.fType), .fresh 1 r.fDims.length (lm (ik .i64) r.fDims), .fresh 1 r.fF.length (lm (ik .u32) r.fF), .fresh 1 r.fI.length (lm (ik .i64) r.fI), .fresh 1 r.fB.length (lm (bk) r.fB)]
set_option maxHeartbeats 20000000 in
theorem w24 (cp : CallP) (fu : Nat) (x1 : T_Tensor) (H38_0 : ∀ (a0 : T_Tensor) r, tens_Copy fu a0 = some r → cp 38 [.agg (c_T_Tensor a0)] = some (.agg [.v (.int .i64 r.fType), .fresh 1 r.fDims.length (lm (ik .i64) r.fDims), .fresh 1 r.fF.length (lm (ik .u32) r.fF), .fresh 1 r.fI.length (lm (ik .i64) r.fI), .fresh 1 r.fB.length (lm (bk) r.fB)])) (H39_0 : ∀ (a0 : Int) r, soft_Canon fu a0 = some r → cp 39 [.v (.int .u32 a0)] = some (.v (.int .u32 r))) : J (go Tryz.prog noC cp noI 0 [] d24 fu (fin Tryz.prog [.cell 2 31] [31]) (bodyOf Tryz.f24) (initE 0 [.agg (c_T_Tensor x1)]) [] []) (tens_Canon fu x1) e24 := by
 unfold tens_Canon e24
 refine J.bind fun x2 h1 => ?_
 have e_h1 := H38_0 _ _ h1
 try simp only [NN, NT, LN, simprocAttr, DT] at e_h1
 conv => arg 1; simp (disch := first | exact Zd | fail) only [bodyOf, Tryz.f24, ZZ, d24_at, simprocAttr, e_h1]
 refine J.eq go_seq ?_
 conv => arg 1; simp (disch := first | exact Zd | fail) only [ZZ, d24_at, simprocAttr, e_h1]
 unfold tens_Canon_W1
 refine J.loop (fun (s : (List Int) × Int) => ([(2, .ptr (0, 2, 0) 0 0), (3, .ptr (0, 3, 0) 0 0), (9, .own (0, 7, 1) 0 s.1.length s.1.length), (10, .v (.int .i64 ((x2.fF.length : Nat) : Int))), (11, .v (.int .i64 s.2))], [((0, 2, 0), .bx true ([.v (.int .i64 0), .v (.slice none 0 0), .v (.slice none 0 0), .v (.slice none 0 0), .v (.slice none 0 0)])), ((0, 7, 0), .sl true true 1 x2.fDims.length (lm (ik .i64) x2.fDims)), ((0, 7, 1), .sl true true 1 s.1.length (lm (ik .u32) s.1)), ((0, 7, 2), .sl true true 1 x2.fI.length (lm (ik .i64) x2.fI)), ((0, 7, 3), .sl true true 1 x2.fB.length (lm (bk) x2.fB)), ((0, 3, 0), .bx true ([.v (.int .i64 x2.fType), .own (0, 7, 0) 0 x2.fDims.length x2.fDims.length, .own (0, 7, 1) 0 s.1.length s.1.length, .own (0, 7, 2) 0 x2.fI.length x2.fI.length, .own (0, 7, 3) 0 x2.fB.length x2.fB.length]))])) (fun next s => tens_Canon_L1 fu x2 (fun x5 x6 => next (x5, x6)) s.1 s.2) (s0 := (x2.fF, 0)) ?_ ?_ ?_
 ·first | rfl | (simp only [LN, NN, NT])
 ·first | (simp (disch := first | exact Zd | fail) only [RR, simprocAttr, LN, NN, NT]; done) | (simp (disch := first | exact Zd | fail) only [RR, simprocAttr, LN, fm_app, NN, NT]; done) | rfl
 rintro next k1 hn1 ⟨x5, x6⟩
 let nx1 : (List Int) → Int → Option T_Tensor := (fun x5 x6 => next (x5, x6))
 show J _ (tens_Canon_L1 fu x2 nx1 x5 x6) _
 unfold tens_Canon_L1
 conv => arg 1; simp (disch := first | exact Zd | fail) only [ZZ, d24_at, simprocAttr, e_h1]
 refine J.eq go_seq ?_
 conv => arg 1; simp (disch := first | exact Zd | fail) only [ZZ, d24_at, simprocAttr, e_h1]
 refine J.ite (fun h2 => ?_) (fun h2 => ?_)
 ·have h2' := decide_eq_true h2
  have h2'' : decide (((x2.fF.length : Nat) : Int) ≤ x6) = false := decide_eq_false (by omega)
  conv => arg 1; simp (disch := first | exact Zd | fail) only [ZZ, d24_at, simprocAttr, e_h1, h2'', h2']
  refine J.eq ret_seq ?_
  refine J.eq go_seq ?_
  refine J.at fun x9 h3 h4 h5 => ?_
  refine J.bind fun x10 h6 => ?_
  have e_h6 := H39_0 _ _ h6
  try simp only [NN, NT, LN, simprocAttr, DT] at e_h6
  refine J.chk fun h7 => ?_
  conv => arg 1; simp (disch := first | exact Zd | fail) only [ZZ, d24_at, simprocAttr, e_h1, h2'', h2', lm_ik h5, e_h6]
  refine J.eq ret_seq ?_
  conv => arg 1; simp (disch := first | exact Zd | fail) only [ZZ, d24_at, simprocAttr, e_h1, h2'', h2', lm_ik h5, e_h6]
  refine J.next (s := (x5.set x6.toNat x10, wk .i64 (x6 + 1))) hn1 ?_ ?_
  ·first | rfl | (simp only [LN, NN, NT])
  ·first | (simp (disch := first | exact Zd | fail) only [RR, simprocAttr, LN, NN, NT]; done) | (simp (disch := first | exact Zd | fail) only [RR, simprocAttr, LN, fm_app, NN, NT]; done) | rfl
 ·have h2' := decide_eq_false h2
  have h2'' : decide (((x2.fF.length : Nat) : Int) ≤ x6) = true := decide_eq_true (by omega)
  conv => arg 1; simp (disch := first | exact Zd | fail) only [ZZ, d24_at, simprocAttr, e_h1, h2'', h2']
  refine J.eq ret_seq ?_
  refine J.some ?_
  simp (maxSteps := 20000000) (disch := first | exact Zd | fail) only [ZZ, d24_at, simprocAttr, e_h1, h2'', h2', FF, LN, NN, NT]
noncomputable def t24 (fu : Nat) : CallP := orE 38 (mkC (fun (t : T_Tensor) => ([.agg (c_T_Tensor t)] : List AV)) (fun t => tens_Copy fu t) e38) (orE 39 (mkC (fun (t : Int) => ([.v (.int .u32 t)] : List AV)) (fun t => soft_Canon fu t) e39) (noP))
theorem t24_ok (fu : Nat) : CpOK Tryz.prog (t24 fu ) := orE_ok (orE_ok (noP_ok) (mkC_ok (fun t b h => ok39 fu t  b h))) (mkC_ok (fun t b h => ok38 fu t  b h))
theorem ok24 (fu : Nat) (x1 : T_Tensor) (r) (h : tens_Canon fu x1 = some r) : PureOK Tryz.prog 24 [.agg (c_T_Tensor x1)] (e24 r) :=
  pure_J mixed (cp := t24 fu ) (t24_ok fu  ) noI_ok i24 (w24 _ fu x1  (fun a0 r h => orE_hit (mkC_at (a := a0) (by intro a b h; first | (exact rfl) | (simp only [INJ, IJ] at h; first | exact h | (simp_all [Prod.ext_iff]) )) h)) (fun a0 r h => orE_miss (by decide) (orE_hit (mkC_at (a := a0) (by intro a b h; first | (exact rfl) | (simp only [INJ, IJ] at h; first | exact h | (simp_all [Prod.ext_iff]) )) h)))) h
/-! 44: slices.Clone[[]int,int] -/
def d44 : List (Nat × List Nat) := [(0, [2]), (0, []), (0, [3]), (0, []), (0, []), (0, []), (0, [0, 5, 6, 7])]
def d44_at := And.intro (show d44.getD 0 (0, []) = (0, [2]) from rfl) <| And.intro (show d44.getD 1 (0, []) = (0, []) from rfl) <| And.intro (show d44.getD 2 (0, []) = (0, [3]) from rfl) <| And.intro (show d44.getD 3 (0, []) = (0, []) from rfl) <| And.intro (show d44.getD 4 (0, []) = (0, []) from rfl) <| And.intro (show d44.getD 5 (0, []) = (0, []) from rfl) <| (show d44.getD 6 (0, []) = (0, [0, 5, 6, 7]) from rfl)
theorem i44 : finfo Tryz.prog 44 d44 = some ⟨bodyOf Tryz.f44, [.tmp 2], [27]⟩ := finfo_at Tryz.func44 rfl (by kernel_rfl) (by kernel_rfl)
def e44 : List Int → AV := fun r => .fresh 1 r.length (lm (ik .i64) r)
theorem ok44 (fu : Nat) (x1 : List Int) (r) (h : slices_Clone_int fu x1 = some r) : PureOK Tryz.prog 44 [.arr x1.length (lm (ik .i64) x1)] (e44 r) := by
  unfold slices_Clone_int chk at h
  split at h
  · rename_i hs; injection h with h; subst h
    cases x1 with
    | nil =>
      refine PureOK.arr0 fun a c => ?_
      refine pure_J mixed (C := noC) (cp := noP) (n := 0) noP_ok noI_ok i44 (s := some []) (enc := e44) ?_ rfl
      refine J.some ?_
      unfold e44
      cases a with
      | none =>
        conv => lhs; simp (disch := first | exact Zd | fail) only [bodyOf, Tryz.f44, ZZ, d44_at, simprocAttr, abin_sl tv27]
        rw [go_seq]
        simp (disch := first | exact Zd | fail) only [ZZ, d44_at, simprocAttr, abin_sl tv27, FF, NN, NT]
      | some a =>
        conv => lhs; simp (disch := first | exact Zd | fail) only [bodyOf, Tryz.f44, ZZ, d44_at, simprocAttr, abin_sl tv27]
        rw [go_seq]
        conv => lhs; simp (disch := first | exact Zd | fail) only [ZZ, d44_at, simprocAttr, abin_sl tv27]
        rw [ret_seq]
        simp (disch := first | exact Zd | fail) only [ZZ, d44_at, simprocAttr, abin_sl tv27, FF, NN, NT]
    | cons y x1 =>
      refine pure_J mixed (C := noC) (cp := noP) (n := 0) noP_ok noI_ok i44 (s := some (y :: x1)) (enc := e44) ?_ rfl
      refine J.some ?_
      have ha : ∀ xs, abin Tryz.prog .eql 27 (.arr (y :: x1).length xs) (.v (.slice none 0 0)) = some (.v (.bool false)) := fun xs => abin_an (op := .eql) tv27 (by simp)
      generalize y :: x1 = l at hs ha ⊢
      unfold e44
      conv => lhs; simp (disch := first | exact Zd | fail) only [bodyOf, Tryz.f44, ZZ, d44_at, simprocAttr, abin_sl tv27, ha]
      rw [go_seq]
      conv => lhs; simp (disch := first | exact Zd | fail) only [ZZ, d44_at, simprocAttr, abin_sl tv27, ha]
      rw [ret_seq]
      simp (disch := first | exact Zd | fail) only [ZZ, d44_at, simprocAttr, abin_sl tv27, FF, NN, NT, lm_length]
  · cases h
/-! 26: lattice/ewise.Vals -/
open Aw (d26)
def d26_at := by have h := tabL Aw.d26.eq_1; simp only [AllAt, Nat.zero_add, Nat.reduceAdd] at h; exact h
theorem i26 : finfo Tryz.prog 26 d26 = some ⟨bodyOf Tryz.f26, [.tmp 2], [51]⟩ := finfo_at Tryz.func26 rfl (by kernel_rfl) (by kernel_rfl)
def e26 : (List T_Val) → AV := fun r => .arr r.length (fm c_T_Val r)
set_option maxHeartbeats 20000000 in
theorem w26 (cp : CallP) (fu : Nat) (x1 : List T_Tensor) (H44_0 : ∀ (a0 : List Int) r, slices_Clone_int fu a0 = some r → cp 44 [.arr a0.length (lm (ik .i64) a0)] = some (.fresh 1 r.length (lm (ik .i64) r))) (H38_0 : ∀ (a0 : T_Tensor) r, tens_Copy fu a0 = some r → cp 38 [.agg (c_T_Tensor a0)] = some (.agg [.v (.int .i64 r.fType), .fresh 1 r.fDims.length (lm (ik .i64) r.fDims), .fresh 1 r.fF.length (lm (ik .u32) r.fF), .fresh 1 r.fI.length (lm (ik .i64) r.fI), .fresh 1 r.fB.length (lm (bk) r.fB)])) : J (go Tryz.prog noC cp noI 0 [] d26 fu (finS Tryz.prog [.tmp 2] [51]) (bodyOf Tryz.f26) (initE 0 [.arr x1.length (fm c_T_Tensor x1)]) [] []) (ewise_Vals fu x1) e26 := by
 unfold ewise_Vals e26
 conv => arg 1; simp (disch := first | exact Zd | fail) only [bodyOf, Tryz.f26, ZZ, d26_at, simprocAttr, SE]
 refine J.eq go_seq ?_
 conv => arg 1; simp (disch := first | exact Zd | fail) only [ZZ, d26_at, simprocAttr, SE]
 unfold ewise_Vals_W1
 refine J.loop (fun (s : (List T_Val) × Int) => ([(3, .own (0, 3, 77) 0 s.1.length s.1.length), (7, .arr x1.length (fm c_T_Tensor x1)), (8, .v (.int .i64 (x1.length : Int))), (9, .v (.int .i64 s.2))], [((0, 3, 77), .sl true true 8 s.1.length (fm c_T_Val s.1))])) (fun next s => ewise_Vals_L1 fu x1 (fun x5 x6 => next (x5, x6)) s.1 s.2) (s0 := (([] : List T_Val), 0)) ?_ ?_ ?_
 ·first | rfl | (simp only [LN, NN, NT])
 ·first | (simp (disch := first | exact Zd | fail) only [RR, simprocAttr, LN, NN, NT]; done) | (simp (disch := first | exact Zd | fail) only [RR, simprocAttr, LN, fm_app, NN, NT]; done) | rfl
 rintro next k1 hn1 ⟨x5, x6⟩
 let nx1 : (List T_Val) → Int → Option (List T_Val) := (fun x5 x6 => next (x5, x6))
 show J _ (ewise_Vals_L1 fu x1 nx1 x5 x6) _
 unfold ewise_Vals_L1
 conv => arg 1; simp (disch := first | exact Zd | fail) only [ZZ, d26_at, simprocAttr, SE]
 refine J.eq go_seq ?_
 conv => arg 1; simp (disch := first | exact Zd | fail) only [ZZ, d26_at, simprocAttr, SE]
 refine J.ite (fun h1 => ?_) (fun h1 => ?_)
 ·have h1' := decide_eq_true h1
  have h1'' : decide ((x1.length : Int) ≤ x6) = false := decide_eq_false (by omega)
  conv => arg 1; simp (disch := first | exact Zd | fail) only [ZZ, d26_at, simprocAttr, SE, h1'', h1']
  refine J.eq ret_seq ?_
  refine J.eq go_seq ?_
  refine J.at fun x10 h2 h3 h4 => ?_
  conv => arg 1; simp (disch := first | exact Zd | fail) only [ZZ, d26_at, simprocAttr, SE, h1'', h1', fm_cut c_T_Tensor_len h4, fm_fit c_T_Tensor_len h4, fm_at c_T_Tensor_len h4, fm_at0 c_T_Tensor_len h4]
  refine J.eq go_seq ?_
  conv => arg 1; simp (disch := first | exact Zd | fail) only [ZZ, d26_at, simprocAttr, SE, h1'', h1', fm_cut c_T_Tensor_len h4, fm_fit c_T_Tensor_len h4, fm_at c_T_Tensor_len h4, fm_at0 c_T_Tensor_len h4]
  refine J.ite (fun h5 => ?_) (fun h5 => ?_)
  ·have h5' := decide_eq_true h5
   conv => arg 1; simp (disch := first | exact Zd | fail) only [ZZ, d26_at, simprocAttr, SE, h1'', h1', fm_cut c_T_Tensor_len h4, fm_fit c_T_Tensor_len h4, fm_at c_T_Tensor_len h4, fm_at0 c_T_Tensor_len h4, h5']
   refine J.eq ret_seq ?_
   refine J.chk fun h6 => ?_
   conv => arg 1; simp (disch := first | exact Zd | fail) only [ZZ, d26_at, simprocAttr, SE, h1'', h1', fm_cut c_T_Tensor_len h4, fm_fit c_T_Tensor_len h4, fm_at c_T_Tensor_len h4, fm_at0 c_T_Tensor_len h4, h5']
   refine J.eq ret_seq ?_
   conv => arg 1; simp (disch := first | exact Zd | fail) only [ZZ, d26_at, simprocAttr, SE, h1'', h1', fm_cut c_T_Tensor_len h4, fm_fit c_T_Tensor_len h4, fm_at c_T_Tensor_len h4, fm_at0 c_T_Tensor_len h4, h5']
   refine J.next (s := (x5 ++ ([T_Val.mk 0 ([]) false (T_Tensor.mk 0 ([]) ([]) ([]) ([]))]), wk .i64 (x6 + 1))) hn1 ?_ ?_
   ·first | rfl | (simp only [LN, NN, NT])
   ·first | (simp (disch := first | exact Zd | fail) only [RR, simprocAttr, LN, NN, NT]; done) | (simp (disch := first | exact Zd | fail) only [RR, simprocAttr, LN, fm_app, NN, NT]; done) | rfl
  ·have h5' := decide_eq_false h5
   refine J.bind fun x11 h7 => ?_
   have e_h7 := H44_0 _ _ h7
   try simp only [NN, NT, LN, simprocAttr, DT] at e_h7
   refine J.bind fun x12 h8 => ?_
   have e_h8 := H38_0 _ _ h8
   try simp only [NN, NT, LN, simprocAttr, DT] at e_h8
   conv => arg 1; simp (disch := first | exact Zd | fail) only [ZZ, d26_at, simprocAttr, SE, h1'', h1', fm_cut c_T_Tensor_len h4, fm_fit c_T_Tensor_len h4, fm_at c_T_Tensor_len h4, fm_at0 c_T_Tensor_len h4, h5', e_h7, e_h8]
   refine J.eq ret_seq ?_
   refine J.chk fun h9 => ?_
   conv => arg 1; simp (disch := first | exact Zd | fail) only [ZZ, d26_at, simprocAttr, SE, h1'', h1', fm_cut c_T_Tensor_len h4, fm_fit c_T_Tensor_len h4, fm_at c_T_Tensor_len h4, fm_at0 c_T_Tensor_len h4, h5', e_h7, e_h8]
   refine J.eq ret_seq ?_
   conv => arg 1; simp (disch := first | exact Zd | fail) only [ZZ, d26_at, simprocAttr, SE, h1'', h1', fm_cut c_T_Tensor_len h4, fm_fit c_T_Tensor_len h4, fm_at c_T_Tensor_len h4, fm_at0 c_T_Tensor_len h4, h5', e_h7, e_h8]
   refine J.next (s := (x5 ++ ([T_Val.mk x10.fType x11 true x12]), wk .i64 (x6 + 1))) hn1 ?_ ?_
   ·first | rfl | (simp only [LN, NN, NT])
   ·first | (simp (disch := first | exact Zd | fail) only [RR, simprocAttr, LN, NN, NT]; done) | (simp (disch := first | exact Zd | fail) only [RR, simprocAttr, LN, fm_app, NN, NT]; done) | rfl
 ·have h1' := decide_eq_false h1
  have h1'' : decide ((x1.length : Int) ≤ x6) = true := decide_eq_true (by omega)
  conv => arg 1; simp (disch := first | exact Zd | fail) only [ZZ, d26_at, simprocAttr, SE, h1'', h1']
  refine J.eq ret_seq ?_
  refine J.some ?_
  simp (maxSteps := 20000000) (disch := first | exact Zd | fail) only [ZZ, d26_at, simprocAttr, SE, h1'', h1', FF, LN, NN, NT]
noncomputable def t26 (fu : Nat) : CallP := orE 44 (mkC (fun (t : List Int) => ([.arr t.length (lm (ik .i64) t)] : List AV)) (fun t => slices_Clone_int fu t) e44) (orE 38 (mkC (fun (t : T_Tensor) => ([.agg (c_T_Tensor t)] : List AV)) (fun t => tens_Copy fu t) e38) (noP))
theorem t26_ok (fu : Nat) : CpOK Tryz.prog (t26 fu ) := orE_ok (orE_ok (noP_ok) (mkC_ok (fun t b h => ok38 fu t  b h))) (mkC_ok (fun t b h => ok44 fu t  b h))
theorem ok26 (fu : Nat) (x1 : List T_Tensor) (r) (h : ewise_Vals fu x1 = some r) : PureOK Tryz.prog 26 [.arr x1.length (fm c_T_Tensor x1)] (e26 r) :=
  pureS_J mixed (cp := t26 fu ) (t26_ok fu  ) noI_ok i26 (w26 _ fu x1  (fun a0 r h => orE_hit (mkC_at (a := a0) (by intro a b h; first | (exact rfl) | (simp only [INJ, IJ] at h; first | exact h | (simp_all [Prod.ext_iff]) )) h)) (fun a0 r h => orE_miss (by decide) (orE_hit (mkC_at (a := a0) (by intro a b h; first | (exact rfl) | (simp only [INJ, IJ] at h; first | exact h | (simp_all [Prod.ext_iff]) )) h)))) h
/-! 84: lattice/ops.Arity -/
def e84 : (Int × Int × Int × Int) → AV := fun r => .tuple [.v (.int .i64 r.1), .v (.int .i64 r.2.1), .v (.int .i64 r.2.2.1), .v (.int .i64 r.2.2.2)]
theorem ok84 (fu : Nat) (x1 : Int) (r) (h : ops_Arity fu x1 = some r) : PureOK Tryz.prog 84 [.v (.int .i64 x1)] (e84 r) := by
  unfold ops_Arity chk at h
  split at h
  · rename_i hx; injection h with h; subst h
    obtain rfl := hx
    exact closed84
  · cases h
/-! 101: (lattice/infer.ask).val -/
open Aw (d101)
def d101_at := by have h := tabL Aw.d101.eq_1; simp only [AllAt, Nat.zero_add, Nat.reduceAdd] at h; exact h
theorem i101 : finfo Tryz.prog 101 d101 = some ⟨bodyOf Tryz.f101, [.cell 4 56], [56]⟩ := finfo_at Tryz.func101 rfl (by kernel_rfl) (by kernel_rfl)
def e101 : T_Val → AV := fun r => .agg [.v (.int .i64 r.fType), .arr r.fDims.length (lm (ik .i64) r.fDims), .v (.bool r.fConst), .v (.int .i64 r.fT.fType), .arr r.fT.fDims.length (lm (ik .i64) r.fT.fDims), .arr r.fT.fF.length (lm (ik .u32) r.fT.fF), .arr r.fT.fI.length (lm (ik .i64) r.fT.fI), .arr r.fT.fB.length (lm (bk) r.fT.fB)]
set_option maxHeartbeats 20000000 in
theorem w101 (cp : CallP) (fu : Nat) (x1 : T_infer_ask) (x2 : Int) : J (go Tryz.prog noC cp noI 0 [] d101 fu (finS Tryz.prog [.cell 4 56] [56]) (bodyOf Tryz.f101) (initE 0 [.agg (c_T_infer_ask x1), .v (.int .i64 x2)]) [] []) (infer_ask_val fu x1 x2) e101 := by
 unfold infer_ask_val e101
 refine J.chk fun h1 => ?_
 conv => arg 1; simp (disch := first | exact Zd | fail) only [bodyOf, Tryz.f101, ZZ, d101_at, simprocAttr, SE, h1]
 refine J.eq go_seq ?_
 conv => arg 1; simp (disch := first | exact Zd | fail) only [ZZ, d101_at, simprocAttr, SE, h1]
 refine J.ite (fun h2 => ?_) (fun h2 => ?_)
 ·have h2' := decide_eq_true h2
  have h2'' : decide ((x1.fin.length : Int) ≤ x2) = false := decide_eq_false (by omega)
  refine J.at fun x3 h3 h4 h5 => ?_
  refine J.some ?_
  simp (maxSteps := 20000000) (disch := first | exact Zd | fail) only [ZZ, d101_at, simprocAttr, SE, h1, h2'', h2', fm_cut c_T_Val_len h5, fm_fit c_T_Val_len h5, fm_at c_T_Val_len h5, fm_at0 c_T_Val_len h5, FF, LN, NN, NT]
 ·have h2' := decide_eq_false h2
  have h2'' : decide ((x1.fin.length : Int) ≤ x2) = true := decide_eq_true (by omega)
  conv => arg 1; simp (disch := first | exact Zd | fail) only [ZZ, d101_at, simprocAttr, SE, h1, h2'', h2']
  refine J.eq ret_seq ?_
  refine J.some ?_
  simp (maxSteps := 20000000) (disch := first | exact Zd | fail) only [ZZ, d101_at, simprocAttr, SE, h1, h2'', h2', FF, LN, NN, NT]
noncomputable def t101 (fu : Nat) : CallP := noP
theorem t101_ok (fu : Nat) : CpOK Tryz.prog (t101 fu ) := noP_ok
theorem ok101 (fu : Nat) (x1 : T_infer_ask) (x2 : Int) (r) (h : infer_ask_val fu x1 x2 = some r) : PureOK Tryz.prog 101 [.agg (c_T_infer_ask x1), .v (.int .i64 x2)] (e101 r) :=
  pureS_J mixed (cp := t101 fu ) (t101_ok fu  ) noI_ok i101 (w101 _ fu x1 x2  ) h
/-! 85: (lattice/infer.ask).has -/
open Aw (d85)
def d85_at := by have h := tabL Aw.d85.eq_1; simp only [AllAt, Nat.zero_add, Nat.reduceAdd] at h; exact h
theorem i85 : finfo Tryz.prog 85 d85 = some ⟨bodyOf Tryz.f85, [.tmp 4], [4]⟩ := finfo_at Tryz.func85 rfl (by kernel_rfl) (by kernel_rfl)
def e85 : Bool → AV := fun r => .v (.bool r)
set_option maxHeartbeats 20000000 in
theorem w85 (cp : CallP) (fu : Nat) (x1 : T_infer_ask) (x2 : Int) (H101_0 : ∀ (a0 : T_infer_ask) (a1 : Int) r, infer_ask_val fu a0 a1 = some r → cp 101 [.agg (c_T_infer_ask a0), .v (.int .i64 a1)] = some (.agg [.v (.int .i64 r.fType), .arr r.fDims.length (lm (ik .i64) r.fDims), .v (.bool r.fConst), .v (.int .i64 r.fT.fType), .arr r.fT.fDims.length (lm (ik .i64) r.fT.fDims), .arr r.fT.fF.length (lm (ik .u32) r.fT.fF), .arr r.fT.fI.length (lm (ik .i64) r.fT.fI), .arr r.fT.fB.length (lm (bk) r.fT.fB)])) : J (go Tryz.prog noC cp noI 0 [] d85 fu (fin Tryz.prog [.tmp 4] [4]) (bodyOf Tryz.f85) (initE 0 [.agg (c_T_infer_ask x1), .v (.int .i64 x2)]) [] []) (infer_ask_has fu x1 x2) e85 := by
 unfold infer_ask_has e85
 refine J.chk fun h1 => ?_
 refine J.bind fun x3 h2 => ?_
 have e_h2 := H101_0 _ _ _ h2
 try simp only [NN, NT, LN, simprocAttr, DT] at e_h2
 refine J.some ?_
 simp (maxSteps := 20000000) (disch := first | exact Zd | fail) only [bodyOf, Tryz.f85, ZZ, d85_at, simprocAttr, h1, e_h2, FF, LN, NN, NT]
noncomputable def t85 (fu : Nat) : CallP := orE 101 (mkC (fun (t : T_infer_ask × Int) => ([.agg (c_T_infer_ask t.1), .v (.int .i64 t.2)] : List AV)) (fun t => infer_ask_val fu t.1 t.2) e101) (noP)
theorem t85_ok (fu : Nat) : CpOK Tryz.prog (t85 fu ) := orE_ok (noP_ok) (mkC_ok (fun t b h => ok101 fu t.1 t.2  b h))
theorem ok85 (fu : Nat) (x1 : T_infer_ask) (x2 : Int) (r) (h : infer_ask_has fu x1 x2 = some r) : PureOK Tryz.prog 85 [.agg (c_T_infer_ask x1), .v (.int .i64 x2)] (e85 r) :=
  pure_J mixed (cp := t85 fu ) (t85_ok fu  ) noI_ok i85 (w85 _ fu x1 x2  (fun a0 a1 r h => orE_hit (mkC_at (a := (a0, a1)) (by intro a b h; first | (exact rfl) | (simp only [INJ, IJ] at h; first | exact h | (simp_all [Prod.ext_iff]) )) h))) h
/-! 40: (lattice/infer.ask).complete -/
open Aw (d40)
def d40_at := by have h := tabL Aw.d40.eq_1; simp only [AllAt, Nat.zero_add, Nat.reduceAdd] at h; exact h
theorem i40 : finfo Tryz.prog 40 d40 = some ⟨bodyOf Tryz.f40, [.tmp 2], [4]⟩ := finfo_at Tryz.func40 rfl (by kernel_rfl) (by kernel_rfl)
def e40 : Bool → AV := fun r => .v (.bool r)
set_option maxHeartbeats 20000000 in
theorem w40 (cp : CallP) (fu : Nat) (x1 : T_infer_ask) (H84_0 : ∀ (a0 : Int) r, ops_Arity fu a0 = some r → cp 84 [.v (.int .i64 a0)] = some (.tuple [.v (.int .i64 r.1), .v (.int .i64 r.2.1), .v (.int .i64 r.2.2.1), .v (.int .i64 r.2.2.2)])) (H85_0 : ∀ (a0 : T_infer_ask) (a1 : Int) r, infer_ask_has fu a0 a1 = some r → cp 85 [.agg (c_T_infer_ask a0), .v (.int .i64 a1)] = some (.v (.bool r))) : J (go Tryz.prog noC cp noI 0 [] d40 fu (fin Tryz.prog [.tmp 2] [4]) (bodyOf Tryz.f40) (initE 0 [.agg (c_T_infer_ask x1)]) [] []) (infer_ask_complete fu x1) e40 := by
 unfold infer_ask_complete e40
 refine J.chk fun h1 => ?_
 refine J.bind fun x2 h2 => ?_
 have e_h2 := H84_0 _ _ h2
 try simp only [NN, NT, LN, simprocAttr, DT] at e_h2
 conv => arg 1; simp (disch := first | exact Zd | fail) only [bodyOf, Tryz.f40, ZZ, d40_at, simprocAttr, h1, e_h2]
 refine J.joinS (fun (t : Unit) => ([(1, .ptr (0, 1, 0) 0 0), (3, .v (.int .i64 x2.1))], [((0, 1, 0), .bx true ([.v (.int .i64 73), .v (.int .i64 x1.fs.fAxis), .arr x1.fs.fAxes.length (lm (ik .i64) x1.fs.fAxes), .v (.bool x1.fs.fHasAxes), .v (.bool x1.fs.fKeep), .v (.bool x1.fs.fNoop), .v (.bool x1.fs.fLast), .v (.bool x1.fs.fZero), .arr x1.fs.fPerm.length (lm (ik .i64) x1.fs.fPerm), .v (.bool x1.fs.fHasPerm), .v (.int .u32 x1.fs.fAlpha), .v (.int .u32 x1.fs.fBeta), .v (.int .u32 x1.fs.fEpsilon), .v (.bool x1.fs.fLow), .v (.bool x1.fs.fHigh), .v (.bool x1.fs.fFmod), .v (.int .i64 x1.fs.fTo), .v (.int .i64 x1.fs.fMode), .v (.bool x1.fs.fTransA), .v (.bool x1.fs.fTransB), .v (.int .i64 x1.fs.fGroup), .arr x1.fs.fKernel.length (lm (ik .i64) x1.fs.fKernel), .arr x1.fs.fStrides.length (lm (ik .i64) x1.fs.fStrides), .arr x1.fs.fPads.length (lm (ik .i64) x1.fs.fPads), .arr x1.fs.fDilations.length (lm (ik .i64) x1.fs.fDilations), .v (.int .i64 x1.fs.fAuto), .v (.bool x1.fs.fCeil), .v (.bool x1.fs.fCount), .v (.int .i64 x1.fs.fBlock), .v (.int .i64 x1.fs.fStart), .v (.int .i64 x1.fs.fEnd), .v (.bool x1.fs.fHasEnd), .v (.int .i64 x1.fs.fValue.fType), .arr x1.fs.fValue.fDims.length (lm (ik .i64) x1.fs.fValue.fDims), .arr x1.fs.fValue.fF.length (lm (ik .u32) x1.fs.fValue.fF), .arr x1.fs.fValue.fI.length (lm (ik .i64) x1.fs.fValue.fI), .arr x1.fs.fValue.fB.length (lm (bk) x1.fs.fValue.fB), .arr x1.fin.length (fm c_T_Val x1.fin), .v (.int .i64 x1.fouts)]))])) (fun t => infer_ask_complete_k1 fu x1 x2) ?_ (fun hj1 => ?_)
 ·rintro ⟨⟩
  show J _ (infer_ask_complete_k1 fu x1 x2) _
  unfold infer_ask_complete_k1
  refine J.eq go_seq ?_
  conv => arg 1; simp (disch := first | exact Zd | fail) only [ZZ, d40_at, simprocAttr, h1, e_h2]
  unfold infer_ask_complete_W1
  refine J.loop (fun (s : Int) => ([(1, .ptr (0, 1, 0) 0 0), (49, .v (.int .i64 x2.1)), (50, .v (.int .i64 s))], [((0, 1, 0), .bx true ([.v (.int .i64 73), .v (.int .i64 x1.fs.fAxis), .arr x1.fs.fAxes.length (lm (ik .i64) x1.fs.fAxes), .v (.bool x1.fs.fHasAxes), .v (.bool x1.fs.fKeep), .v (.bool x1.fs.fNoop), .v (.bool x1.fs.fLast), .v (.bool x1.fs.fZero), .arr x1.fs.fPerm.length (lm (ik .i64) x1.fs.fPerm), .v (.bool x1.fs.fHasPerm), .v (.int .u32 x1.fs.fAlpha), .v (.int .u32 x1.fs.fBeta), .v (.int .u32 x1.fs.fEpsilon), .v (.bool x1.fs.fLow), .v (.bool x1.fs.fHigh), .v (.bool x1.fs.fFmod), .v (.int .i64 x1.fs.fTo), .v (.int .i64 x1.fs.fMode), .v (.bool x1.fs.fTransA), .v (.bool x1.fs.fTransB), .v (.int .i64 x1.fs.fGroup), .arr x1.fs.fKernel.length (lm (ik .i64) x1.fs.fKernel), .arr x1.fs.fStrides.length (lm (ik .i64) x1.fs.fStrides), .arr x1.fs.fPads.length (lm (ik .i64) x1.fs.fPads), .arr x1.fs.fDilations.length (lm (ik .i64) x1.fs.fDilations), .v (.int .i64 x1.fs.fAuto), .v (.bool x1.fs.fCeil), .v (.bool x1.fs.fCount), .v (.int .i64 x1.fs.fBlock), .v (.int .i64 x1.fs.fStart), .v (.int .i64 x1.fs.fEnd), .v (.bool x1.fs.fHasEnd), .v (.int .i64 x1.fs.fValue.fType), .arr x1.fs.fValue.fDims.length (lm (ik .i64) x1.fs.fValue.fDims), .arr x1.fs.fValue.fF.length (lm (ik .u32) x1.fs.fValue.fF), .arr x1.fs.fValue.fI.length (lm (ik .i64) x1.fs.fValue.fI), .arr x1.fs.fValue.fB.length (lm (bk) x1.fs.fValue.fB), .arr x1.fin.length (fm c_T_Val x1.fin), .v (.int .i64 x1.fouts)]))])) (fun next s => infer_ask_complete_L1 fu x1 x2 next s) (s0 := 0) ?_ ?_ ?_
  ·first | rfl | (simp only [LN, NN, NT])
  ·first | (simp (disch := first | exact Zd | fail) only [RR, simprocAttr, LN, NN, NT]; done) | (simp (disch := first | exact Zd | fail) only [RR, simprocAttr, LN, fm_app, NN, NT]; done) | rfl
  rintro nx1 k1 hn1 x4
  show J _ (infer_ask_complete_L1 fu x1 x2 nx1 x4) _
  unfold infer_ask_complete_L1
  conv => arg 1; simp (disch := first | exact Zd | fail) only [ZZ, d40_at, simprocAttr, h1, e_h2]
  refine J.eq go_seq ?_
  conv => arg 1; simp (disch := first | exact Zd | fail) only [ZZ, d40_at, simprocAttr, h1, e_h2]
  refine J.ite (fun h3 => ?_) (fun h3 => ?_)
  ·have h3' := decide_eq_true h3
   have h3'' : decide (x2.1 ≤ x4) = false := decide_eq_false (by omega)
   conv => arg 1; simp (disch := first | exact Zd | fail) only [ZZ, d40_at, simprocAttr, h1, e_h2, h3'', h3']
   refine J.eq ret_seq ?_
   refine J.eq go_seq ?_
   refine J.bind fun x6 h4 => ?_
   have e_h4 := H85_0 _ _ _ h4
   try simp only [NN, NT, LN, simprocAttr, DT] at e_h4
   conv => arg 1; simp (disch := first | exact Zd | fail) only [ZZ, d40_at, simprocAttr, h1, e_h2, h3'', h3', e_h4]
   refine J.ite (fun h5 => ?_) (fun h5 => ?_)
   ·have h5' : x6 = true := h5
    conv => arg 1; simp (disch := first | exact Zd | fail) only [ZZ, d40_at, simprocAttr, h1, e_h2, h3'', h3', e_h4, h5']
    refine J.eq ret_seq ?_
    conv => arg 1; simp (disch := first | exact Zd | fail) only [ZZ, d40_at, simprocAttr, h1, e_h2, h3'', h3', e_h4, h5']
    refine J.next (s := wk .i64 (x4 + 1)) hn1 ?_ ?_
    ·first | rfl | (simp only [LN, NN, NT])
    ·first | (simp (disch := first | exact Zd | fail) only [RR, simprocAttr, LN, NN, NT]; done) | (simp (disch := first | exact Zd | fail) only [RR, simprocAttr, LN, fm_app, NN, NT]; done) | rfl
   ·have h5' : x6 = false := Bool.eq_false_iff.2 h5
    refine J.some ?_
    simp (maxSteps := 20000000) (disch := first | exact Zd | fail) only [ZZ, d40_at, simprocAttr, h1, e_h2, h3'', h3', e_h4, h5', FF, LN, NN, NT]
  ·have h3' := decide_eq_false h3
   have h3'' : decide (x2.1 ≤ x4) = true := decide_eq_true (by omega)
   conv => arg 1; simp (disch := first | exact Zd | fail) only [ZZ, d40_at, simprocAttr, h1, e_h2, h3'', h3']
   refine J.eq ret_seq ?_
   refine J.some ?_
   simp (maxSteps := 20000000) (disch := first | exact Zd | fail) only [ZZ, d40_at, simprocAttr, h1, e_h2, h3'', h3', FF, LN, NN, NT]
 ·refine J.eq go_seq ?_
  conv => arg 1; simp (disch := first | exact Zd | fail) only [ZZ, d40_at, simprocAttr, h1, e_h2]
  refine J.ite (fun h6 => ?_) (fun h6 => ?_)
  ·have h6' := decide_eq_true h6
   conv => arg 1; simp (disch := first | exact Zd | fail) only [ZZ, d40_at, simprocAttr, h1, e_h2, h6']
   refine J.eq ret_seq ?_
   refine J.some ?_
   simp (maxSteps := 20000000) (disch := first | exact Zd | fail) only [ZZ, d40_at, simprocAttr, h1, e_h2, h6', FF, LN, NN, NT]
  ·have h6' := decide_eq_false h6
   conv => arg 1; simp (disch := first | exact Zd | fail) only [ZZ, d40_at, simprocAttr, h1, e_h2, h6']
   refine J.ite (fun h7 => ?_) (fun h7 => ?_)
   ·have h7' := decide_eq_true h7
    have h7'' : decide (x2.1 ≤ (x1.fin.length : Int)) = false := decide_eq_false (by omega)
    conv => arg 1; simp (disch := first | exact Zd | fail) only [ZZ, d40_at, simprocAttr, h1, e_h2, h6', h7'', h7']
    refine J.eq ret_seq ?_
    refine J.some ?_
    simp (maxSteps := 20000000) (disch := first | exact Zd | fail) only [ZZ, d40_at, simprocAttr, h1, e_h2, h6', h7'', h7', FF, LN, NN, NT]
   ·have h7' := decide_eq_false h7
    have h7'' : decide (x2.1 ≤ (x1.fin.length : Int)) = true := decide_eq_true (by omega)
    conv => arg 1; simp (disch := first | exact Zd | fail) only [ZZ, d40_at, simprocAttr, h1, e_h2, h6', h7'', h7']
    refine J.ite (fun h8 => ?_) (fun h8 => ?_)
    ·have h8' := decide_eq_true h8
     have h8'' : decide ((x1.fin.length : Int) ≤ x2.2.1) = false := decide_eq_false (by omega)
     conv => arg 1; simp (disch := first | exact Zd | fail) only [ZZ, d40_at, simprocAttr, h1, e_h2, h6', h7'', h7', h8'', h8']
     refine J.eq ret_seq ?_
     refine J.some ?_
     simp (maxSteps := 20000000) (disch := first | exact Zd | fail) only [ZZ, d40_at, simprocAttr, h1, e_h2, h6', h7'', h7', h8'', h8', FF, LN, NN, NT]
    ·have h8' := decide_eq_false h8
     have h8'' : decide ((x1.fin.length : Int) ≤ x2.2.1) = true := decide_eq_true (by omega)
     conv => arg 1; simp (disch := first | exact Zd | fail) only [ZZ, d40_at, simprocAttr, h1, e_h2, h6', h7'', h7', h8'', h8']
     refine J.ite (fun h9 => ?_) (fun h9 => ?_)
     ·have h9' := decide_eq_true h9
      have h9'' : decide (x2.2.2.1 ≤ x1.fouts) = false := decide_eq_false (by omega)
      conv => arg 1; simp (disch := first | exact Zd | fail) only [ZZ, d40_at, simprocAttr, h1, e_h2, h6', h7'', h7', h8'', h8', h9'', h9']
      refine J.eq ret_seq ?_
      refine J.some ?_
      simp (maxSteps := 20000000) (disch := first | exact Zd | fail) only [ZZ, d40_at, simprocAttr, h1, e_h2, h6', h7'', h7', h8'', h8', h9'', h9', FF, LN, NN, NT]
     ·have h9' := decide_eq_false h9
      have h9'' : decide (x2.2.2.1 ≤ x1.fouts) = true := decide_eq_true (by omega)
      conv => arg 1; simp (disch := first | exact Zd | fail) only [ZZ, d40_at, simprocAttr, h1, e_h2, h6', h7'', h7', h8'', h8', h9'', h9']
      refine J.eq ret_seq ?_
      conv => arg 1; simp (disch := first | exact Zd | fail) only [ZZ, d40_at, simprocAttr, h1, e_h2, h6', h7'', h7', h8'', h8', h9'', h9']
      refine J.ite (fun h10 => ?_) (fun h10 => ?_)
      ·have h10' := decide_eq_true h10
       have h10'' : decide (x1.fouts ≤ x2.2.2.2) = false := decide_eq_false (by omega)
       refine J.some ?_
       simp (maxSteps := 20000000) (disch := first | exact Zd | fail) only [ZZ, d40_at, simprocAttr, h1, e_h2, h6', h7'', h7', h8'', h8', h9'', h9', h10'', h10', FF, LN, NN, NT]
      ·have h10' := decide_eq_false h10
       have h10'' : decide (x1.fouts ≤ x2.2.2.2) = true := decide_eq_true (by omega)
       conv => arg 1; simp (disch := first | exact Zd | fail) only [ZZ, d40_at, simprocAttr, h1, e_h2, h6', h7'', h7', h8'', h8', h9'', h9', h10'', h10']
       refine J.jmp (t := ()) hj1 ?_ ?_
       ·first | rfl | (simp only [LN, NN, NT])
       ·first | (simp (disch := first | exact Zd | fail) only [RR, simprocAttr, LN, NN, NT]; done) | (simp (disch := first | exact Zd | fail) only [RR, simprocAttr, LN, fm_app, NN, NT]; done) | rfl
noncomputable def t40 (fu : Nat) : CallP := orE 84 (mkC (fun (t : Int) => ([.v (.int .i64 t)] : List AV)) (fun t => ops_Arity fu t) e84) (orE 85 (mkC (fun (t : T_infer_ask × Int) => ([.agg (c_T_infer_ask t.1), .v (.int .i64 t.2)] : List AV)) (fun t => infer_ask_has fu t.1 t.2) e85) (noP))
theorem t40_ok (fu : Nat) : CpOK Tryz.prog (t40 fu ) := orE_ok (orE_ok (noP_ok) (mkC_ok (fun t b h => ok85 fu t.1 t.2  b h))) (mkC_ok (fun t b h => ok84 fu t  b h))
theorem ok40 (fu : Nat) (x1 : T_infer_ask) (r) (h : infer_ask_complete fu x1 = some r) : PureOK Tryz.prog 40 [.agg (c_T_infer_ask x1)] (e40 r) :=
  pure_J mixed (cp := t40 fu ) (t40_ok fu  ) noI_ok i40 (w40 _ fu x1  (fun a0 r h => orE_hit (mkC_at (a := a0) (by intro a b h; first | (exact rfl) | (simp only [INJ, IJ] at h; first | exact h | (simp_all [Prod.ext_iff]) )) h)) (fun a0 a1 r h => orE_miss (by decide) (orE_hit (mkC_at (a := (a0, a1)) (by intro a b h; first | (exact rfl) | (simp only [INJ, IJ] at h; first | exact h | (simp_all [Prod.ext_iff]) )) h)))) h
/-! 135: lattice/infer.sorts -/
open Aw (d135)
def d135_at := by have h := tabL Aw.d135.eq_1; simp only [AllAt, Nat.zero_add, Nat.reduceAdd] at h; exact h
theorem i135 : finfo Tryz.prog 135 d135 = some ⟨bodyOf Tryz.f135, [.tmp 2], [9]⟩ := finfo_at Tryz.func135 rfl (by kernel_rfl) (by kernel_rfl)
def e135 : ByteArray → AV := fun r => .v (.string r)
set_option maxHeartbeats 20000000 in
theorem w135 (cp : CallP) (fu : Nat) (x1 : Int) : J (go Tryz.prog noC cp noI 0 [] d135 fu (fin Tryz.prog [.tmp 2] [9]) (bodyOf Tryz.f135) (initE 0 [.v (.int .i64 x1)]) [] []) (infer_sorts fu x1) e135 := by
 unfold infer_sorts e135
 refine J.chk fun h1 => ?_
 conv => arg 1; simp (disch := first | exact Zd | fail) only [bodyOf, Tryz.f135, ZZ, d135_at, simprocAttr, h1]
 refine J.eq go_seq ?_
 conv => arg 1; simp (disch := first | exact Zd | fail) only [ZZ, d135_at, simprocAttr, h1]
 refine J.joinS (fun (t : Unit) => ([(3, .v (.int .i64 73)), (4, .v (.bool (decide ((73 : Int) = 71))))], [])) (fun t => infer_sorts_k1 fu) ?_ (fun hj1 => ?_)
 ·rintro ⟨⟩
  show J _ (infer_sorts_k1 fu) _
  unfold infer_sorts_k1
  conv => arg 1; simp (disch := first | exact Zd | fail) only [ZZ, d135_at, simprocAttr, h1]
  refine J.joinS (fun (t : Unit) => ([(3, .v (.int .i64 73)), (4, .v (.bool (decide ((73 : Int) = 71)))), (13, .v (.bool (decide ((73 : Int) = 25))))], [])) (fun t => infer_sorts_k2 fu) ?_ (fun hj2 => ?_)
  ·rintro ⟨⟩
   show J _ (infer_sorts_k2 fu) _
   unfold infer_sorts_k2
   conv => arg 1; simp (disch := first | exact Zd | fail) only [ZZ, d135_at, simprocAttr, h1]
   refine J.joinS (fun (t : Unit) => ([(3, .v (.int .i64 73)), (4, .v (.bool (decide ((73 : Int) = 71)))), (13, .v (.bool (decide ((73 : Int) = 25)))), (18, .v (.bool (decide ((73 : Int) = 43))))], [])) (fun t => infer_sorts_k3 fu) ?_ (fun hj3 => ?_)
   ·rintro ⟨⟩
    show J _ (infer_sorts_k3 fu) _
    unfold infer_sorts_k3
    conv => arg 1; simp (disch := first | exact Zd | fail) only [ZZ, d135_at, simprocAttr, h1]
    refine J.eq go_seq ?_
    conv => arg 1; simp (disch := first | exact Zd | fail) only [ZZ, d135_at, simprocAttr, h1]
    refine J.eq ret_seq ?_
    conv => arg 1; simp (disch := first | exact Zd | fail) only [ZZ, d135_at, simprocAttr, h1]
    refine J.joinS (fun (t : Unit) => ([(3, .v (.int .i64 73)), (4, .v (.bool (decide ((73 : Int) = 71)))), (13, .v (.bool (decide ((73 : Int) = 25)))), (18, .v (.bool (decide ((73 : Int) = 43)))), (31, .v (.bool (decide ((73 : Int) = 47)))), (36, .v (.bool (decide ((73 : Int) = 64))))], [])) (fun t => infer_sorts_k4 fu) ?_ (fun hj4 => ?_)
    ·rintro ⟨⟩
     show J _ (infer_sorts_k4 fu) _
     unfold infer_sorts_k4
     conv => arg 1; simp (disch := first | exact Zd | fail) only [ZZ, d135_at, simprocAttr, h1]
     refine J.joinS (fun (t : Unit) => ([(3, .v (.int .i64 73)), (4, .v (.bool (decide ((73 : Int) = 71)))), (13, .v (.bool (decide ((73 : Int) = 25)))), (18, .v (.bool (decide ((73 : Int) = 43)))), (31, .v (.bool (decide ((73 : Int) = 47)))), (36, .v (.bool (decide ((73 : Int) = 64)))), (45, .v (.bool (decide ((73 : Int) = 51))))], [])) (fun t => infer_sorts_k5 fu) ?_ (fun hj5 => ?_)
     ·rintro ⟨⟩
      show J _ (infer_sorts_k5 fu) _
      unfold infer_sorts_k5
      conv => arg 1; simp (disch := first | exact Zd | fail) only [ZZ, d135_at, simprocAttr, h1]
      refine J.eq go_seq ?_
      conv => arg 1; simp (disch := first | exact Zd | fail) only [ZZ, d135_at, simprocAttr, h1]
      refine J.eq ret_seq ?_
      conv => arg 1; simp (disch := first | exact Zd | fail) only [ZZ, d135_at, simprocAttr, h1]
      refine J.eq ret_seq ?_
      refine J.some ?_
      simp (maxSteps := 20000000) (disch := first | exact Zd | fail) only [ZZ, d135_at, simprocAttr, h1, FF, LN, NN, NT]
     ·conv => arg 1; simp (disch := first | exact Zd | fail) only [ZZ, d135_at, simprocAttr, h1]
      refine J.jmp (t := ()) hj5 ?_ ?_
      ·first | rfl | (simp only [LN, NN, NT])
      ·first | (simp (disch := first | exact Zd | fail) only [RR, simprocAttr, LN, NN, NT]; done) | (simp (disch := first | exact Zd | fail) only [RR, simprocAttr, LN, fm_app, NN, NT]; done) | rfl
    ·conv => arg 1; simp (disch := first | exact Zd | fail) only [ZZ, d135_at, simprocAttr, h1]
     refine J.jmp (t := ()) hj4 ?_ ?_
     ·first | rfl | (simp only [LN, NN, NT])
     ·first | (simp (disch := first | exact Zd | fail) only [RR, simprocAttr, LN, NN, NT]; done) | (simp (disch := first | exact Zd | fail) only [RR, simprocAttr, LN, fm_app, NN, NT]; done) | rfl
   ·conv => arg 1; simp (disch := first | exact Zd | fail) only [ZZ, d135_at, simprocAttr, h1]
    refine J.jmp (t := ()) hj3 ?_ ?_
    ·first | rfl | (simp only [LN, NN, NT])
    ·first | (simp (disch := first | exact Zd | fail) only [RR, simprocAttr, LN, NN, NT]; done) | (simp (disch := first | exact Zd | fail) only [RR, simprocAttr, LN, fm_app, NN, NT]; done) | rfl
  ·conv => arg 1; simp (disch := first | exact Zd | fail) only [ZZ, d135_at, simprocAttr, h1]
   refine J.jmp (t := ()) hj2 ?_ ?_
   ·first | rfl | (simp only [LN, NN, NT])
   ·first | (simp (disch := first | exact Zd | fail) only [RR, simprocAttr, LN, NN, NT]; done) | (simp (disch := first | exact Zd | fail) only [RR, simprocAttr, LN, fm_app, NN, NT]; done) | rfl
 ·conv => arg 1; simp (disch := first | exact Zd | fail) only [ZZ, d135_at, simprocAttr, h1]
  refine J.jmp (t := ()) hj1 ?_ ?_
  ·first | rfl | (simp only [LN, NN, NT])
  ·first | (simp (disch := first | exact Zd | fail) only [RR, simprocAttr, LN, NN, NT]; done) | (simp (disch := first | exact Zd | fail) only [RR, simprocAttr, LN, fm_app, NN, NT]; done) | rfl
noncomputable def t135 (fu : Nat) : CallP := noP
theorem t135_ok (fu : Nat) : CpOK Tryz.prog (t135 fu ) := noP_ok
theorem ok135 (fu : Nat) (x1 : Int) (r) (h : infer_sorts fu x1 = some r) : PureOK Tryz.prog 135 [.v (.int .i64 x1)] (e135 r) :=
  pure_J mixed (cp := t135 fu ) (t135_ok fu  ) noI_ok i135 (w135 _ fu x1  ) h
/-! 136: (lattice/infer.ask).fits -/
open Aw (d136)
def d136_at := by have h := tabL Aw.d136.eq_1; simp only [AllAt, Nat.zero_add, Nat.reduceAdd] at h; exact h
theorem i136 : finfo Tryz.prog 136 d136 = some ⟨bodyOf Tryz.f136, [.tmp 6], [4]⟩ := finfo_at Tryz.func136 rfl (by kernel_rfl) (by kernel_rfl)
def e136 : Bool → AV := fun r => .v (.bool r)
set_option maxHeartbeats 20000000 in
theorem w136 (cp : CallP) (fu : Nat) (x1 : T_infer_ask) (x2 : Int) (x3 : Int) (H101_0 : ∀ (a0 : T_infer_ask) (a1 : Int) r, infer_ask_val fu a0 a1 = some r → cp 101 [.agg (c_T_infer_ask a0), .v (.int .i64 a1)] = some (.agg [.v (.int .i64 r.fType), .arr r.fDims.length (lm (ik .i64) r.fDims), .v (.bool r.fConst), .v (.int .i64 r.fT.fType), .arr r.fT.fDims.length (lm (ik .i64) r.fT.fDims), .arr r.fT.fF.length (lm (ik .u32) r.fT.fF), .arr r.fT.fI.length (lm (ik .i64) r.fT.fI), .arr r.fT.fB.length (lm (bk) r.fT.fB)])) (H78_0 : ∀ (a0 : Int) r, tens_Width fu a0 = some r → cp 78 [.v (.int .i64 a0)] = some (.v (.int .i64 r))) : J (go Tryz.prog noC cp noI 0 [] d136 fu (fin Tryz.prog [.tmp 6] [4]) (bodyOf Tryz.f136) (initE 0 [.agg (c_T_infer_ask x1), .v (.int .i64 x2), .v (.int .u8 x3)]) [] []) (infer_ask_fits fu x1 x2 x3) e136 := by
 unfold infer_ask_fits e136
 refine J.chk fun h1 => ?_
 refine J.bind fun x4 h2 => ?_
 have e_h2 := H101_0 _ _ _ h2
 try simp only [NN, NT, LN, simprocAttr, DT] at e_h2
 conv => arg 1; simp (disch := first | exact Zd | fail) only [bodyOf, Tryz.f136, ZZ, d136_at, simprocAttr, h1, e_h2]
 refine J.eq go_seq ?_
 conv => arg 1; simp (disch := first | exact Zd | fail) only [ZZ, d136_at, simprocAttr, h1, e_h2]
 refine J.ite (fun h3 => ?_) (fun h3 => ?_)
 ·have h3' := decide_eq_true h3
  conv => arg 1; simp (disch := first | exact Zd | fail) only [ZZ, d136_at, simprocAttr, h1, e_h2, h3']
  refine J.joinS (fun (t : Bool) => ([(1, .v (.int .i64 x2)), (3, .ptr (0, 3, 0) 0 0), (6, .v (.bool t)), (7, .v (.int .i64 x4.fType)), (12, .v (.int .u8 x3))], [((0, 3, 0), .bx true ([.v (.int .i64 73), .v (.int .i64 x1.fs.fAxis), .arr x1.fs.fAxes.length (lm (ik .i64) x1.fs.fAxes), .v (.bool x1.fs.fHasAxes), .v (.bool x1.fs.fKeep), .v (.bool x1.fs.fNoop), .v (.bool x1.fs.fLast), .v (.bool x1.fs.fZero), .arr x1.fs.fPerm.length (lm (ik .i64) x1.fs.fPerm), .v (.bool x1.fs.fHasPerm), .v (.int .u32 x1.fs.fAlpha), .v (.int .u32 x1.fs.fBeta), .v (.int .u32 x1.fs.fEpsilon), .v (.bool x1.fs.fLow), .v (.bool x1.fs.fHigh), .v (.bool x1.fs.fFmod), .v (.int .i64 x1.fs.fTo), .v (.int .i64 x1.fs.fMode), .v (.bool x1.fs.fTransA), .v (.bool x1.fs.fTransB), .v (.int .i64 x1.fs.fGroup), .arr x1.fs.fKernel.length (lm (ik .i64) x1.fs.fKernel), .arr x1.fs.fStrides.length (lm (ik .i64) x1.fs.fStrides), .arr x1.fs.fPads.length (lm (ik .i64) x1.fs.fPads), .arr x1.fs.fDilations.length (lm (ik .i64) x1.fs.fDilations), .v (.int .i64 x1.fs.fAuto), .v (.bool x1.fs.fCeil), .v (.bool x1.fs.fCount), .v (.int .i64 x1.fs.fBlock), .v (.int .i64 x1.fs.fStart), .v (.int .i64 x1.fs.fEnd), .v (.bool x1.fs.fHasEnd), .v (.int .i64 x1.fs.fValue.fType), .arr x1.fs.fValue.fDims.length (lm (ik .i64) x1.fs.fValue.fDims), .arr x1.fs.fValue.fF.length (lm (ik .u32) x1.fs.fValue.fF), .arr x1.fs.fValue.fI.length (lm (ik .i64) x1.fs.fValue.fI), .arr x1.fs.fValue.fB.length (lm (bk) x1.fs.fValue.fB), .arr x1.fin.length (fm c_T_Val x1.fin), .v (.int .i64 x1.fouts)]))])) (fun t => infer_ask_fits_k1 fu t) ?_ (fun hj1 => ?_)
  ·rintro x5
   show J _ (infer_ask_fits_k1 fu x5) _
   unfold infer_ask_fits_k1
   refine J.some ?_
   simp (maxSteps := 20000000) (disch := first | exact Zd | fail) only [ZZ, d136_at, simprocAttr, h1, e_h2, h3', FF, LN, NN, NT]
  ·conv => arg 1; simp (disch := first | exact Zd | fail) only [ZZ, d136_at, simprocAttr, h1, e_h2, h3']
   refine J.ite (fun h4 => ?_) (fun h4 => ?_)
   ·have h4' := decide_eq_true h4
    conv => arg 1; simp (disch := first | exact Zd | fail) only [ZZ, d136_at, simprocAttr, h1, e_h2, h3', h4']
    refine J.jmp (t := true) hj1 ?_ ?_
    ·first | rfl | (simp only [LN, NN, NT])
    ·first | (simp (disch := first | exact Zd | fail) only [RR, simprocAttr, LN, NN, NT]; done) | (simp (disch := first | exact Zd | fail) only [RR, simprocAttr, LN, fm_app, NN, NT]; done) | rfl
   ·have h4' := decide_eq_false h4
    conv => arg 1; simp (disch := first | exact Zd | fail) only [ZZ, d136_at, simprocAttr, h1, e_h2, h3', h4']
    refine J.jmp (t := decide (x4.fType = 7)) hj1 ?_ ?_
    ·first | rfl | (simp only [LN, NN, NT])
    ·first | (simp (disch := first | exact Zd | fail) only [RR, simprocAttr, LN, NN, NT]; done) | (simp (disch := first | exact Zd | fail) only [RR, simprocAttr, LN, fm_app, NN, NT]; done) | rfl
 ·have h3' := decide_eq_false h3
  conv => arg 1; simp (disch := first | exact Zd | fail) only [ZZ, d136_at, simprocAttr, h1, e_h2, h3']
  refine J.ite (fun h5 => ?_) (fun h5 => ?_)
  ·have h5' := decide_eq_true h5
   refine J.some ?_
   simp (maxSteps := 20000000) (disch := first | exact Zd | fail) only [ZZ, d136_at, simprocAttr, h1, e_h2, h3', h5', FF, LN, NN, NT]
  ·have h5' := decide_eq_false h5
   conv => arg 1; simp (disch := first | exact Zd | fail) only [ZZ, d136_at, simprocAttr, h1, e_h2, h3', h5']
   refine J.ite (fun h6 => ?_) (fun h6 => ?_)
   ·have h6' := decide_eq_true h6
    refine J.some ?_
    simp (maxSteps := 20000000) (disch := first | exact Zd | fail) only [ZZ, d136_at, simprocAttr, h1, e_h2, h3', h5', h6', FF, LN, NN, NT]
   ·have h6' := decide_eq_false h6
    conv => arg 1; simp (disch := first | exact Zd | fail) only [ZZ, d136_at, simprocAttr, h1, e_h2, h3', h5', h6']
    refine J.ite (fun h7 => ?_) (fun h7 => ?_)
    ·have h7' := decide_eq_true h7
     refine J.some ?_
     simp (maxSteps := 20000000) (disch := first | exact Zd | fail) only [ZZ, d136_at, simprocAttr, h1, e_h2, h3', h5', h6', h7', FF, LN, NN, NT]
    ·have h7' := decide_eq_false h7
     conv => arg 1; simp (disch := first | exact Zd | fail) only [ZZ, d136_at, simprocAttr, h1, e_h2, h3', h5', h6', h7']
     refine J.ite (fun h8 => ?_) (fun h8 => ?_)
     ·have h8' := decide_eq_true h8
      refine J.bind fun x6 h9 => ?_
      have e_h9 := H101_0 _ _ _ h9
      try simp only [NN, NT, LN, simprocAttr, DT] at e_h9
      refine J.some ?_
      simp (maxSteps := 20000000) (disch := first | exact Zd | fail) only [ZZ, d136_at, simprocAttr, h1, e_h2, h3', h5', h6', h7', h8', e_h9, FF, LN, NN, NT]
     ·have h8' := decide_eq_false h8
      conv => arg 1; simp (disch := first | exact Zd | fail) only [ZZ, d136_at, simprocAttr, h1, e_h2, h3', h5', h6', h7', h8']
      refine J.ite (fun h10 => ?_) (fun h10 => ?_)
      ·have h10' := decide_eq_true h10
       refine J.bind fun x7 h11 => ?_
       have e_h11 := H101_0 _ _ _ h11
       try simp only [NN, NT, LN, simprocAttr, DT] at e_h11
       refine J.some ?_
       simp (maxSteps := 20000000) (disch := first | exact Zd | fail) only [ZZ, d136_at, simprocAttr, h1, e_h2, h3', h5', h6', h7', h8', h10', e_h11, FF, LN, NN, NT]
      ·have h10' := decide_eq_false h10
       conv => arg 1; simp (disch := first | exact Zd | fail) only [ZZ, d136_at, simprocAttr, h1, e_h2, h3', h5', h6', h7', h8', h10']
       refine J.eq ret_seq ?_
       refine J.bind fun x8 h12 => ?_
       have e_h12 := H78_0 _ _ h12
       try simp only [NN, NT, LN, simprocAttr, DT] at e_h12
       refine J.some ?_
       simp (maxSteps := 20000000) (disch := first | exact Zd | fail) only [ZZ, d136_at, simprocAttr, h1, e_h2, h3', h5', h6', h7', h8', h10', e_h12, FF, LN, NN, NT]
noncomputable def t136 (fu : Nat) : CallP := orE 101 (mkC (fun (t : T_infer_ask × Int) => ([.agg (c_T_infer_ask t.1), .v (.int .i64 t.2)] : List AV)) (fun t => infer_ask_val fu t.1 t.2) e101) (orE 78 (mkC (fun (t : Int) => ([.v (.int .i64 t)] : List AV)) (fun t => tens_Width fu t) e78) (noP))
theorem t136_ok (fu : Nat) : CpOK Tryz.prog (t136 fu ) := orE_ok (orE_ok (noP_ok) (mkC_ok (fun t b h => ok78 fu t  b h))) (mkC_ok (fun t b h => ok101 fu t.1 t.2  b h))
theorem ok136 (fu : Nat) (x1 : T_infer_ask) (x2 : Int) (x3 : Int) (r) (h : infer_ask_fits fu x1 x2 x3 = some r) : PureOK Tryz.prog 136 [.agg (c_T_infer_ask x1), .v (.int .i64 x2), .v (.int .u8 x3)] (e136 r) :=
  pure_J mixed (cp := t136 fu ) (t136_ok fu  ) noI_ok i136 (w136 _ fu x1 x2 x3  (fun a0 a1 r h => orE_hit (mkC_at (a := (a0, a1)) (by intro a b h; first | (exact rfl) | (simp only [INJ, IJ] at h; first | exact h | (simp_all [Prod.ext_iff]) )) h)) (fun a0 r h => orE_miss (by decide) (orE_hit (mkC_at (a := a0) (by intro a b h; first | (exact rfl) | (simp only [INJ, IJ] at h; first | exact h | (simp_all [Prod.ext_iff]) )) h)))) h
/-! 86: (lattice/infer.ask).typed -/
open Aw (d86)
def d86_at := by have h := tabL Aw.d86.eq_1; simp only [AllAt, Nat.zero_add, Nat.reduceAdd] at h; exact h
theorem i86 : finfo Tryz.prog 86 d86 = some ⟨bodyOf Tryz.f86, [.tmp 2], [4]⟩ := finfo_at Tryz.func86 rfl (by kernel_rfl) (by kernel_rfl)
def e86 : Bool → AV := fun r => .v (.bool r)
set_option maxHeartbeats 20000000 in
theorem w86 (cp : CallP) (fu : Nat) (x1 : T_infer_ask) (H135_0 : ∀ (a0 : Int) r, infer_sorts fu a0 = some r → cp 135 [.v (.int .i64 a0)] = some (.v (.string r))) (H85_0 : ∀ (a0 : T_infer_ask) (a1 : Int) r, infer_ask_has fu a0 a1 = some r → cp 85 [.agg (c_T_infer_ask a0), .v (.int .i64 a1)] = some (.v (.bool r))) (H101_0 : ∀ (a0 : T_infer_ask) (a1 : Int) r, infer_ask_val fu a0 a1 = some r → cp 101 [.agg (c_T_infer_ask a0), .v (.int .i64 a1)] = some (.agg [.v (.int .i64 r.fType), .arr r.fDims.length (lm (ik .i64) r.fDims), .v (.bool r.fConst), .v (.int .i64 r.fT.fType), .arr r.fT.fDims.length (lm (ik .i64) r.fT.fDims), .arr r.fT.fF.length (lm (ik .u32) r.fT.fF), .arr r.fT.fI.length (lm (ik .i64) r.fT.fI), .arr r.fT.fB.length (lm (bk) r.fT.fB)])) (H78_0 : ∀ (a0 : Int) r, tens_Width fu a0 = some r → cp 78 [.v (.int .i64 a0)] = some (.v (.int .i64 r))) (H136_0 : ∀ (a0 : T_infer_ask) (a1 : Int) (a2 : Int) r, infer_ask_fits fu a0 a1 a2 = some r → cp 136 [.agg (c_T_infer_ask a0), .v (.int .i64 a1), .v (.int .u8 a2)] = some (.v (.bool r))) : J (go Tryz.prog noC cp noI 0 [] d86 fu (fin Tryz.prog [.tmp 2] [4]) (bodyOf Tryz.f86) (initE 0 [.agg (c_T_infer_ask x1)]) [] []) (infer_ask_typed fu x1) e86 := by
 unfold infer_ask_typed e86
 refine J.chk fun h1 => ?_
 refine J.bind fun x2 h2 => ?_
 have e_h2 := H135_0 _ _ h2
 try simp only [NN, NT, LN, simprocAttr, DT] at e_h2
 conv => arg 1; simp (disch := first | exact Zd | fail) only [bodyOf, Tryz.f86, ZZ, d86_at, simprocAttr, h1, e_h2]
 refine J.joinS (fun (t : Unit) => ([(1, .ptr (0, 1, 0) 0 0)], [((0, 1, 0), .bx true ([.v (.int .i64 73), .v (.int .i64 x1.fs.fAxis), .arr x1.fs.fAxes.length (lm (ik .i64) x1.fs.fAxes), .v (.bool x1.fs.fHasAxes), .v (.bool x1.fs.fKeep), .v (.bool x1.fs.fNoop), .v (.bool x1.fs.fLast), .v (.bool x1.fs.fZero), .arr x1.fs.fPerm.length (lm (ik .i64) x1.fs.fPerm), .v (.bool x1.fs.fHasPerm), .v (.int .u32 x1.fs.fAlpha), .v (.int .u32 x1.fs.fBeta), .v (.int .u32 x1.fs.fEpsilon), .v (.bool x1.fs.fLow), .v (.bool x1.fs.fHigh), .v (.bool x1.fs.fFmod), .v (.int .i64 x1.fs.fTo), .v (.int .i64 x1.fs.fMode), .v (.bool x1.fs.fTransA), .v (.bool x1.fs.fTransB), .v (.int .i64 x1.fs.fGroup), .arr x1.fs.fKernel.length (lm (ik .i64) x1.fs.fKernel), .arr x1.fs.fStrides.length (lm (ik .i64) x1.fs.fStrides), .arr x1.fs.fPads.length (lm (ik .i64) x1.fs.fPads), .arr x1.fs.fDilations.length (lm (ik .i64) x1.fs.fDilations), .v (.int .i64 x1.fs.fAuto), .v (.bool x1.fs.fCeil), .v (.bool x1.fs.fCount), .v (.int .i64 x1.fs.fBlock), .v (.int .i64 x1.fs.fStart), .v (.int .i64 x1.fs.fEnd), .v (.bool x1.fs.fHasEnd), .v (.int .i64 x1.fs.fValue.fType), .arr x1.fs.fValue.fDims.length (lm (ik .i64) x1.fs.fValue.fDims), .arr x1.fs.fValue.fF.length (lm (ik .u32) x1.fs.fValue.fF), .arr x1.fs.fValue.fI.length (lm (ik .i64) x1.fs.fValue.fI), .arr x1.fs.fValue.fB.length (lm (bk) x1.fs.fValue.fB), .arr x1.fin.length (fm c_T_Val x1.fin), .v (.int .i64 x1.fouts)]))])) (fun t => infer_ask_typed_k1 fu) ?_ (fun hj1 => ?_)
 ·rintro ⟨⟩
  show J _ (infer_ask_typed_k1 fu) _
  unfold infer_ask_typed_k1
  refine J.eq go_seq ?_
  conv => arg 1; simp (disch := first | exact Zd | fail) only [ZZ, d86_at, simprocAttr, h1, e_h2]
  refine J.eq ret_seq ?_
  refine J.some ?_
  simp (maxSteps := 20000000) (disch := first | exact Zd | fail) only [ZZ, d86_at, simprocAttr, h1, e_h2, FF, LN, NN, NT]
 ·conv => arg 1; simp (disch := first | exact Zd | fail) only [ZZ, d86_at, simprocAttr, h1, e_h2]
  unfold infer_ask_typed_W1
  refine J.loop (fun (s : Int) => ([(1, .ptr (0, 1, 0) 0 0), (3, .v (.string x2)), (10, .v (.int .i64 (x1.fin.length : Int))), (11, .v (.int .i64 s))], [((0, 1, 0), .bx true ([.v (.int .i64 73), .v (.int .i64 x1.fs.fAxis), .arr x1.fs.fAxes.length (lm (ik .i64) x1.fs.fAxes), .v (.bool x1.fs.fHasAxes), .v (.bool x1.fs.fKeep), .v (.bool x1.fs.fNoop), .v (.bool x1.fs.fLast), .v (.bool x1.fs.fZero), .arr x1.fs.fPerm.length (lm (ik .i64) x1.fs.fPerm), .v (.bool x1.fs.fHasPerm), .v (.int .u32 x1.fs.fAlpha), .v (.int .u32 x1.fs.fBeta), .v (.int .u32 x1.fs.fEpsilon), .v (.bool x1.fs.fLow), .v (.bool x1.fs.fHigh), .v (.bool x1.fs.fFmod), .v (.int .i64 x1.fs.fTo), .v (.int .i64 x1.fs.fMode), .v (.bool x1.fs.fTransA), .v (.bool x1.fs.fTransB), .v (.int .i64 x1.fs.fGroup), .arr x1.fs.fKernel.length (lm (ik .i64) x1.fs.fKernel), .arr x1.fs.fStrides.length (lm (ik .i64) x1.fs.fStrides), .arr x1.fs.fPads.length (lm (ik .i64) x1.fs.fPads), .arr x1.fs.fDilations.length (lm (ik .i64) x1.fs.fDilations), .v (.int .i64 x1.fs.fAuto), .v (.bool x1.fs.fCeil), .v (.bool x1.fs.fCount), .v (.int .i64 x1.fs.fBlock), .v (.int .i64 x1.fs.fStart), .v (.int .i64 x1.fs.fEnd), .v (.bool x1.fs.fHasEnd), .v (.int .i64 x1.fs.fValue.fType), .arr x1.fs.fValue.fDims.length (lm (ik .i64) x1.fs.fValue.fDims), .arr x1.fs.fValue.fF.length (lm (ik .u32) x1.fs.fValue.fF), .arr x1.fs.fValue.fI.length (lm (ik .i64) x1.fs.fValue.fI), .arr x1.fs.fValue.fB.length (lm (bk) x1.fs.fValue.fB), .arr x1.fin.length (fm c_T_Val x1.fin), .v (.int .i64 x1.fouts)]))])) (fun next s => infer_ask_typed_L1 fu x1 x2 next s) (s0 := 0) ?_ ?_ ?_
  ·first | rfl | (simp only [LN, NN, NT])
  ·first | (simp (disch := first | exact Zd | fail) only [RR, simprocAttr, LN, NN, NT]; done) | (simp (disch := first | exact Zd | fail) only [RR, simprocAttr, LN, fm_app, NN, NT]; done) | rfl
  rintro nx1 k1 hn1 x8
  show J _ (infer_ask_typed_L1 fu x1 x2 nx1 x8) _
  unfold infer_ask_typed_L1
  conv => arg 1; simp (disch := first | exact Zd | fail) only [ZZ, d86_at, simprocAttr, h1, e_h2]
  refine J.eq go_seq ?_
  conv => arg 1; simp (disch := first | exact Zd | fail) only [ZZ, d86_at, simprocAttr, h1, e_h2]
  refine J.ite (fun h3 => ?_) (fun h3 => ?_)
  ·have h3' := decide_eq_true h3
   have h3'' : decide ((x1.fin.length : Int) ≤ x8) = false := decide_eq_false (by omega)
   conv => arg 1; simp (disch := first | exact Zd | fail) only [ZZ, d86_at, simprocAttr, h1, e_h2, h3'', h3']
   refine J.eq ret_seq ?_
   refine J.eq go_seq ?_
   conv => arg 1; simp (disch := first | exact Zd | fail) only [ZZ, d86_at, simprocAttr, h1, e_h2, h3'', h3']
   refine J.eq go_seq ?_
   refine J.bind fun x14 h4 => ?_
   have e_h4 := H85_0 _ _ _ h4
   try simp only [NN, NT, LN, simprocAttr, DT] at e_h4
   conv => arg 1; simp (disch := first | exact Zd | fail) only [ZZ, d86_at, simprocAttr, h1, e_h2, h3'', h3', e_h4]
   refine J.ite (fun h5 => ?_) (fun h5 => ?_)
   ·have h5' : x14 = true := h5
    refine J.bind fun x15 h6 => ?_
    have e_h6 := H101_0 _ _ _ h6
    try simp only [NN, NT, LN, simprocAttr, DT] at e_h6
    refine J.bind fun x16 h7 => ?_
    have e_h7 := H78_0 _ _ h7
    try simp only [NN, NT, LN, simprocAttr, DT] at e_h7
    conv => arg 1; simp (disch := first | exact Zd | fail) only [ZZ, d86_at, simprocAttr, h1, e_h2, h3'', h3', e_h4, h5', e_h6, e_h7]
    refine J.ite (fun h8 => ?_) (fun h8 => ?_)
    ·have h8' := decide_eq_true h8
     conv => arg 1; simp (disch := first | exact Zd | fail) only [ZZ, d86_at, simprocAttr, h1, e_h2, h3'', h3', e_h4, h5', e_h6, e_h7, h8']
     refine J.eq ret_seq ?_
     refine J.some ?_
     simp (maxSteps := 20000000) (disch := first | exact Zd | fail) only [ZZ, d86_at, simprocAttr, h1, e_h2, h3'', h3', e_h4, h5', e_h6, e_h7, h8', FF, LN, NN, NT]
    ·have h8' := decide_eq_false h8
     refine J.sat fun x17 h9 => ?_
     refine J.bind fun x18 h10 => ?_
     have e_h10 := H136_0 _ _ _ _ h10
     try simp only [NN, NT, LN, simprocAttr, DT] at e_h10
     conv => arg 1; simp (disch := first | exact Zd | fail) only [ZZ, d86_at, simprocAttr, h1, e_h2, h3'', h3', e_h4, h5', e_h6, e_h7, h8', h9, e_h10]
     refine J.eq ret_seq ?_
     conv => arg 1; simp (disch := first | exact Zd | fail) only [ZZ, d86_at, simprocAttr, h1, e_h2, h3'', h3', e_h4, h5', e_h6, e_h7, h8', h9, e_h10]
     refine J.ite (fun h11 => ?_) (fun h11 => ?_)
     ·have h11' : x18 = true := h11
      conv => arg 1; simp (disch := first | exact Zd | fail) only [ZZ, d86_at, simprocAttr, h1, e_h2, h3'', h3', e_h4, h5', e_h6, e_h7, h8', h9, e_h10, h11']
      refine J.eq ret_seq ?_
      conv => arg 1; simp (disch := first | exact Zd | fail) only [ZZ, d86_at, simprocAttr, h1, e_h2, h3'', h3', e_h4, h5', e_h6, e_h7, h8', h9, e_h10, h11']
      refine J.next (s := wk .i64 (x8 + 1)) hn1 ?_ ?_
      ·first | rfl | (simp only [LN, NN, NT])
      ·first | (simp (disch := first | exact Zd | fail) only [RR, simprocAttr, LN, NN, NT]; done) | (simp (disch := first | exact Zd | fail) only [RR, simprocAttr, LN, fm_app, NN, NT]; done) | rfl
     ·have h11' : x18 = false := Bool.eq_false_iff.2 h11
      refine J.some ?_
      simp (maxSteps := 20000000) (disch := first | exact Zd | fail) only [ZZ, d86_at, simprocAttr, h1, e_h2, h3'', h3', e_h4, h5', e_h6, e_h7, h8', h9, e_h10, h11', FF, LN, NN, NT]
   ·have h5' : x14 = false := Bool.eq_false_iff.2 h5
    conv => arg 1; simp (disch := first | exact Zd | fail) only [ZZ, d86_at, simprocAttr, h1, e_h2, h3'', h3', e_h4, h5']
    refine J.eq ret_seq ?_
    conv => arg 1; simp (disch := first | exact Zd | fail) only [ZZ, d86_at, simprocAttr, h1, e_h2, h3'', h3', e_h4, h5']
    refine J.eq ret_seq ?_
    conv => arg 1; simp (disch := first | exact Zd | fail) only [ZZ, d86_at, simprocAttr, h1, e_h2, h3'', h3', e_h4, h5']
    refine J.next (s := wk .i64 (x8 + 1)) hn1 ?_ ?_
    ·first | rfl | (simp only [LN, NN, NT])
    ·first | (simp (disch := first | exact Zd | fail) only [RR, simprocAttr, LN, NN, NT]; done) | (simp (disch := first | exact Zd | fail) only [RR, simprocAttr, LN, fm_app, NN, NT]; done) | rfl
  ·have h3' := decide_eq_false h3
   have h3'' : decide ((x1.fin.length : Int) ≤ x8) = true := decide_eq_true (by omega)
   conv => arg 1; simp (disch := first | exact Zd | fail) only [ZZ, d86_at, simprocAttr, h1, e_h2, h3'', h3']
   refine J.jmp (t := ()) hj1 ?_ ?_
   ·first | rfl | (simp only [LN, NN, NT])
   ·first | (simp (disch := first | exact Zd | fail) only [RR, simprocAttr, LN, NN, NT]; done) | (simp (disch := first | exact Zd | fail) only [RR, simprocAttr, LN, fm_app, NN, NT]; done) | rfl
noncomputable def t86 (fu : Nat) : CallP := orE 135 (mkC (fun (t : Int) => ([.v (.int .i64 t)] : List AV)) (fun t => infer_sorts fu t) e135) (orE 85 (mkC (fun (t : T_infer_ask × Int) => ([.agg (c_T_infer_ask t.1), .v (.int .i64 t.2)] : List AV)) (fun t => infer_ask_has fu t.1 t.2) e85) (orE 101 (mkC (fun (t : T_infer_ask × Int) => ([.agg (c_T_infer_ask t.1), .v (.int .i64 t.2)] : List AV)) (fun t => infer_ask_val fu t.1 t.2) e101) (orE 78 (mkC (fun (t : Int) => ([.v (.int .i64 t)] : List AV)) (fun t => tens_Width fu t) e78) (orE 136 (mkC (fun (t : T_infer_ask × Int × Int) => ([.agg (c_T_infer_ask t.1), .v (.int .i64 t.2.1), .v (.int .u8 t.2.2)] : List AV)) (fun t => infer_ask_fits fu t.1 t.2.1 t.2.2) e136) (noP)))))
theorem t86_ok (fu : Nat) : CpOK Tryz.prog (t86 fu ) := orE_ok (orE_ok (orE_ok (orE_ok (orE_ok (noP_ok) (mkC_ok (fun t b h => ok136 fu t.1 t.2.1 t.2.2  b h))) (mkC_ok (fun t b h => ok78 fu t  b h))) (mkC_ok (fun t b h => ok101 fu t.1 t.2  b h))) (mkC_ok (fun t b h => ok85 fu t.1 t.2  b h))) (mkC_ok (fun t b h => ok135 fu t  b h))
theorem ok86 (fu : Nat) (x1 : T_infer_ask) (r) (h : infer_ask_typed fu x1 = some r) : PureOK Tryz.prog 86 [.agg (c_T_infer_ask x1)] (e86 r) :=
  pure_J mixed (cp := t86 fu ) (t86_ok fu  ) noI_ok i86 (w86 _ fu x1  (fun a0 r h => orE_hit (mkC_at (a := a0) (by intro a b h; first | (exact rfl) | (simp only [INJ, IJ] at h; first | exact h | (simp_all [Prod.ext_iff]) )) h)) (fun a0 a1 r h => orE_miss (by decide) (orE_hit (mkC_at (a := (a0, a1)) (by intro a b h; first | (exact rfl) | (simp only [INJ, IJ] at h; first | exact h | (simp_all [Prod.ext_iff]) )) h))) (fun a0 a1 r h => orE_miss (by decide) (orE_miss (by decide) (orE_hit (mkC_at (a := (a0, a1)) (by intro a b h; first | (exact rfl) | (simp only [INJ, IJ] at h; first | exact h | (simp_all [Prod.ext_iff]) )) h)))) (fun a0 r h => orE_miss (by decide) (orE_miss (by decide) (orE_miss (by decide) (orE_hit (mkC_at (a := a0) (by intro a b h; first | (exact rfl) | (simp only [INJ, IJ] at h; first | exact h | (simp_all [Prod.ext_iff]) )) h))))) (fun a0 a1 a2 r h => orE_miss (by decide) (orE_miss (by decide) (orE_miss (by decide) (orE_miss (by decide) (orE_hit (mkC_at (a := (a0, a1, a2)) (by intro a b h; first | (exact rfl) | (simp only [INJ, IJ] at h; first | exact h | (simp_all [Prod.ext_iff]) )) h))))))) h
/-! 89: (lattice/infer.ask).dims -/
open Aw (d89)
def d89_at := by have h := tabL Aw.d89.eq_1; simp only [AllAt, Nat.zero_add, Nat.reduceAdd] at h; exact h
theorem i89 : finfo Tryz.prog 89 d89 = some ⟨bodyOf Tryz.f89, [.tmp 4], [27]⟩ := finfo_at Tryz.func89 rfl (by kernel_rfl) (by kernel_rfl)
def e89 : (List Int) → AV := fun r => .arr r.length (lm (ik .i64) r)
set_option maxHeartbeats 20000000 in
theorem w89 (cp : CallP) (fu : Nat) (x1 : T_infer_ask) (x2 : Int) (H101_0 : ∀ (a0 : T_infer_ask) (a1 : Int) r, infer_ask_val fu a0 a1 = some r → cp 101 [.agg (c_T_infer_ask a0), .v (.int .i64 a1)] = some (.agg [.v (.int .i64 r.fType), .arr r.fDims.length (lm (ik .i64) r.fDims), .v (.bool r.fConst), .v (.int .i64 r.fT.fType), .arr r.fT.fDims.length (lm (ik .i64) r.fT.fDims), .arr r.fT.fF.length (lm (ik .u32) r.fT.fF), .arr r.fT.fI.length (lm (ik .i64) r.fT.fI), .arr r.fT.fB.length (lm (bk) r.fT.fB)])) : J (go Tryz.prog noC cp noI 0 [] d89 fu (fin Tryz.prog [.tmp 4] [27]) (bodyOf Tryz.f89) (initE 0 [.agg (c_T_infer_ask x1), .v (.int .i64 x2)]) [] []) (infer_ask_dims fu x1 x2) e89 := by
 unfold infer_ask_dims e89
 refine J.chk fun h1 => ?_
 refine J.bind fun x3 h2 => ?_
 have e_h2 := H101_0 _ _ _ h2
 try simp only [NN, NT, LN, simprocAttr, DT] at e_h2
 refine J.some ?_
 simp (maxSteps := 20000000) (disch := first | exact Zd | fail) only [bodyOf, Tryz.f89, ZZ, d89_at, simprocAttr, h1, e_h2, FF, LN, NN, NT]
noncomputable def t89 (fu : Nat) : CallP := orE 101 (mkC (fun (t : T_infer_ask × Int) => ([.agg (c_T_infer_ask t.1), .v (.int .i64 t.2)] : List AV)) (fun t => infer_ask_val fu t.1 t.2) e101) (noP)
theorem t89_ok (fu : Nat) : CpOK Tryz.prog (t89 fu ) := orE_ok (noP_ok) (mkC_ok (fun t b h => ok101 fu t.1 t.2  b h))
theorem ok89 (fu : Nat) (x1 : T_infer_ask) (x2 : Int) (r) (h : infer_ask_dims fu x1 x2 = some r) : PureOK Tryz.prog 89 [.agg (c_T_infer_ask x1), .v (.int .i64 x2)] (e89 r) :=
  pure_J mixed (cp := t89 fu ) (t89_ok fu  ) noI_ok i89 (w89 _ fu x1 x2  (fun a0 a1 r h => orE_hit (mkC_at (a := (a0, a1)) (by intro a b h; first | (exact rfl) | (simp only [INJ, IJ] at h; first | exact h | (simp_all [Prod.ext_iff]) )) h))) h
/-! 137: (lattice/infer.ask).rank -/
open Aw (d137)
def d137_at := by have h := tabL Aw.d137.eq_1; simp only [AllAt, Nat.zero_add, Nat.reduceAdd] at h; exact h
theorem i137 : finfo Tryz.prog 137 d137 = some ⟨bodyOf Tryz.f137, [.tmp 2], [3]⟩ := finfo_at Tryz.func137 rfl (by kernel_rfl) (by kernel_rfl)
def e137 : Int → AV := fun r => .v (.int .i64 r)
set_option maxHeartbeats 20000000 in
theorem w137 (cp : CallP) (fu : Nat) (x1 : T_infer_ask) (H89_0 : ∀ (a0 : T_infer_ask) (a1 : Int) r, infer_ask_dims fu a0 a1 = some r → cp 89 [.agg (c_T_infer_ask a0), .v (.int .i64 a1)] = some (.arr r.length (lm (ik .i64) r))) : J (go Tryz.prog noC cp noI 0 [] d137 fu (fin Tryz.prog [.tmp 2] [3]) (bodyOf Tryz.f137) (initE 0 [.agg (c_T_infer_ask x1)]) [] []) (infer_ask_rank fu x1) e137 := by
 unfold infer_ask_rank e137
 refine J.chk fun h1 => ?_
 refine J.bind fun x2 h2 => ?_
 have e_h2 := H89_0 _ _ _ h2
 try simp only [NN, NT, LN, simprocAttr, DT] at e_h2
 refine J.some ?_
 simp (maxSteps := 20000000) (disch := first | exact Zd | fail) only [bodyOf, Tryz.f137, ZZ, d137_at, simprocAttr, h1, e_h2, FF, LN, NN, NT]
noncomputable def t137 (fu : Nat) : CallP := orE 89 (mkC (fun (t : T_infer_ask × Int) => ([.agg (c_T_infer_ask t.1), .v (.int .i64 t.2)] : List AV)) (fun t => infer_ask_dims fu t.1 t.2) e89) (noP)
theorem t137_ok (fu : Nat) : CpOK Tryz.prog (t137 fu ) := orE_ok (noP_ok) (mkC_ok (fun t b h => ok89 fu t.1 t.2  b h))
theorem ok137 (fu : Nat) (x1 : T_infer_ask) (r) (h : infer_ask_rank fu x1 = some r) : PureOK Tryz.prog 137 [.agg (c_T_infer_ask x1)] (e137 r) :=
  pure_J mixed (cp := t137 fu ) (t137_ok fu  ) noI_ok i137 (w137 _ fu x1  (fun a0 a1 r h => orE_hit (mkC_at (a := (a0, a1)) (by intro a b h; first | (exact rfl) | (simp only [INJ, IJ] at h; first | exact h | (simp_all [Prod.ext_iff]) )) h))) h
/-! 87: (lattice/infer.ask).attributes -/
open Aw (d87)
def d87_at := by have h := tabL Aw.d87.eq_1; simp only [AllAt, Nat.zero_add, Nat.reduceAdd] at h; exact h
theorem i87 : finfo Tryz.prog 87 d87 = some ⟨bodyOf Tryz.f87, [.tmp 2], [4]⟩ := finfo_at Tryz.func87 rfl (by kernel_rfl) (by kernel_rfl)
def e87 : Bool → AV := fun r => .v (.bool r)
set_option maxHeartbeats 20000000 in
theorem w87 (cp : CallP) (fu : Nat) (x1 : T_infer_ask) (H137_0 : ∀ (a0 : T_infer_ask) r, infer_ask_rank fu a0 = some r → cp 137 [.agg (c_T_infer_ask a0)] = some (.v (.int .i64 r))) : J (go Tryz.prog noC cp noI 0 [] d87 fu (fin Tryz.prog [.tmp 2] [4]) (bodyOf Tryz.f87) (initE 0 [.agg (c_T_infer_ask x1)]) [] []) (infer_ask_attributes fu x1) e87 := by
 unfold infer_ask_attributes e87
 refine J.chk fun h1 => ?_
 refine J.bind fun x2 h2 => ?_
 have e_h2 := H137_0 _ _ h2
 try simp only [NN, NT, LN, simprocAttr, DT] at e_h2
 conv => arg 1; simp (disch := first | exact Zd | fail) only [bodyOf, Tryz.f87, ZZ, d87_at, simprocAttr, h1, e_h2]
 refine J.eq go_seq ?_
 conv => arg 1; simp (disch := first | exact Zd | fail) only [ZZ, d87_at, simprocAttr, h1, e_h2]
 refine J.eq go_seq ?_
 conv => arg 1; simp (disch := first | exact Zd | fail) only [ZZ, d87_at, simprocAttr, h1, e_h2]
 refine J.eq ret_seq ?_
 conv => arg 1; simp (disch := first | exact Zd | fail) only [ZZ, d87_at, simprocAttr, h1, e_h2]
 refine J.joinS (fun (t : Unit) => ([(1, .ptr (0, 1, 0) 0 0), (3, .ptr (0, 3, 0) 0 0), (4, .v (.int .i64 x2)), (17, .v (.int .i64 73)), (58, .v (.bool (decide ((73 : Int) = 64)))), (99, .v (.bool (decide ((73 : Int) = 80))))], [((0, 1, 0), .bx true ([.v (.int .i64 73), .v (.int .i64 x1.fs.fAxis), .arr x1.fs.fAxes.length (lm (ik .i64) x1.fs.fAxes), .v (.bool x1.fs.fHasAxes), .v (.bool x1.fs.fKeep), .v (.bool x1.fs.fNoop), .v (.bool x1.fs.fLast), .v (.bool x1.fs.fZero), .arr x1.fs.fPerm.length (lm (ik .i64) x1.fs.fPerm), .v (.bool x1.fs.fHasPerm), .v (.int .u32 x1.fs.fAlpha), .v (.int .u32 x1.fs.fBeta), .v (.int .u32 x1.fs.fEpsilon), .v (.bool x1.fs.fLow), .v (.bool x1.fs.fHigh), .v (.bool x1.fs.fFmod), .v (.int .i64 x1.fs.fTo), .v (.int .i64 x1.fs.fMode), .v (.bool x1.fs.fTransA), .v (.bool x1.fs.fTransB), .v (.int .i64 x1.fs.fGroup), .arr x1.fs.fKernel.length (lm (ik .i64) x1.fs.fKernel), .arr x1.fs.fStrides.length (lm (ik .i64) x1.fs.fStrides), .arr x1.fs.fPads.length (lm (ik .i64) x1.fs.fPads), .arr x1.fs.fDilations.length (lm (ik .i64) x1.fs.fDilations), .v (.int .i64 x1.fs.fAuto), .v (.bool x1.fs.fCeil), .v (.bool x1.fs.fCount), .v (.int .i64 x1.fs.fBlock), .v (.int .i64 x1.fs.fStart), .v (.int .i64 x1.fs.fEnd), .v (.bool x1.fs.fHasEnd), .v (.int .i64 x1.fs.fValue.fType), .arr x1.fs.fValue.fDims.length (lm (ik .i64) x1.fs.fValue.fDims), .arr x1.fs.fValue.fF.length (lm (ik .u32) x1.fs.fValue.fF), .arr x1.fs.fValue.fI.length (lm (ik .i64) x1.fs.fValue.fI), .arr x1.fs.fValue.fB.length (lm (bk) x1.fs.fValue.fB), .arr x1.fin.length (fm c_T_Val x1.fin), .v (.int .i64 x1.fouts)])), ((0, 3, 0), .bx true ([.v (.int .i64 x1.fs.fAxis), .arr x1.fs.fAxes.length (lm (ik .i64) x1.fs.fAxes), .v (.bool x1.fs.fHasAxes), .v (.bool x1.fs.fKeep), .v (.bool x1.fs.fNoop), .v (.bool x1.fs.fLast), .v (.bool x1.fs.fZero), .arr x1.fs.fPerm.length (lm (ik .i64) x1.fs.fPerm), .v (.bool x1.fs.fHasPerm), .v (.int .u32 x1.fs.fAlpha), .v (.int .u32 x1.fs.fBeta), .v (.int .u32 x1.fs.fEpsilon), .v (.bool x1.fs.fLow), .v (.bool x1.fs.fHigh), .v (.bool x1.fs.fFmod), .v (.int .i64 x1.fs.fTo), .v (.int .i64 x1.fs.fMode), .v (.bool x1.fs.fTransA), .v (.bool x1.fs.fTransB), .v (.int .i64 x1.fs.fGroup), .arr x1.fs.fKernel.length (lm (ik .i64) x1.fs.fKernel), .arr x1.fs.fStrides.length (lm (ik .i64) x1.fs.fStrides), .arr x1.fs.fPads.length (lm (ik .i64) x1.fs.fPads), .arr x1.fs.fDilations.length (lm (ik .i64) x1.fs.fDilations), .v (.int .i64 x1.fs.fAuto), .v (.bool x1.fs.fCeil), .v (.bool x1.fs.fCount), .v (.int .i64 x1.fs.fBlock), .v (.int .i64 x1.fs.fStart), .v (.int .i64 x1.fs.fEnd), .v (.bool x1.fs.fHasEnd), .v (.int .i64 x1.fs.fValue.fType), .arr x1.fs.fValue.fDims.length (lm (ik .i64) x1.fs.fValue.fDims), .arr x1.fs.fValue.fF.length (lm (ik .u32) x1.fs.fValue.fF), .arr x1.fs.fValue.fI.length (lm (ik .i64) x1.fs.fValue.fI), .arr x1.fs.fValue.fB.length (lm (bk) x1.fs.fValue.fB)]))])) (fun t => infer_ask_attributes_k1 fu) ?_ (fun hj1 => ?_)
 ·rintro ⟨⟩
  show J _ (infer_ask_attributes_k1 fu) _
  unfold infer_ask_attributes_k1
  conv => arg 1; simp (disch := first | exact Zd | fail) only [ZZ, d87_at, simprocAttr, h1, e_h2]
  refine J.joinS (fun (t : Unit) => ([(1, .ptr (0, 1, 0) 0 0), (3, .ptr (0, 3, 0) 0 0), (4, .v (.int .i64 x2)), (17, .v (.int .i64 73)), (58, .v (.bool (decide ((73 : Int) = 64)))), (99, .v (.bool (decide ((73 : Int) = 80)))), (131, .v (.bool (decide ((73 : Int) = 69))))], [((0, 1, 0), .bx true ([.v (.int .i64 73), .v (.int .i64 x1.fs.fAxis), .arr x1.fs.fAxes.length (lm (ik .i64) x1.fs.fAxes), .v (.bool x1.fs.fHasAxes), .v (.bool x1.fs.fKeep), .v (.bool x1.fs.fNoop), .v (.bool x1.fs.fLast), .v (.bool x1.fs.fZero), .arr x1.fs.fPerm.length (lm (ik .i64) x1.fs.fPerm), .v (.bool x1.fs.fHasPerm), .v (.int .u32 x1.fs.fAlpha), .v (.int .u32 x1.fs.fBeta), .v (.int .u32 x1.fs.fEpsilon), .v (.bool x1.fs.fLow), .v (.bool x1.fs.fHigh), .v (.bool x1.fs.fFmod), .v (.int .i64 x1.fs.fTo), .v (.int .i64 x1.fs.fMode), .v (.bool x1.fs.fTransA), .v (.bool x1.fs.fTransB), .v (.int .i64 x1.fs.fGroup), .arr x1.fs.fKernel.length (lm (ik .i64) x1.fs.fKernel), .arr x1.fs.fStrides.length (lm (ik .i64) x1.fs.fStrides), .arr x1.fs.fPads.length (lm (ik .i64) x1.fs.fPads), .arr x1.fs.fDilations.length (lm (ik .i64) x1.fs.fDilations), .v (.int .i64 x1.fs.fAuto), .v (.bool x1.fs.fCeil), .v (.bool x1.fs.fCount), .v (.int .i64 x1.fs.fBlock), .v (.int .i64 x1.fs.fStart), .v (.int .i64 x1.fs.fEnd), .v (.bool x1.fs.fHasEnd), .v (.int .i64 x1.fs.fValue.fType), .arr x1.fs.fValue.fDims.length (lm (ik .i64) x1.fs.fValue.fDims), .arr x1.fs.fValue.fF.length (lm (ik .u32) x1.fs.fValue.fF), .arr x1.fs.fValue.fI.length (lm (ik .i64) x1.fs.fValue.fI), .arr x1.fs.fValue.fB.length (lm (bk) x1.fs.fValue.fB), .arr x1.fin.length (fm c_T_Val x1.fin), .v (.int .i64 x1.fouts)])), ((0, 3, 0), .bx true ([.v (.int .i64 x1.fs.fAxis), .arr x1.fs.fAxes.length (lm (ik .i64) x1.fs.fAxes), .v (.bool x1.fs.fHasAxes), .v (.bool x1.fs.fKeep), .v (.bool x1.fs.fNoop), .v (.bool x1.fs.fLast), .v (.bool x1.fs.fZero), .arr x1.fs.fPerm.length (lm (ik .i64) x1.fs.fPerm), .v (.bool x1.fs.fHasPerm), .v (.int .u32 x1.fs.fAlpha), .v (.int .u32 x1.fs.fBeta), .v (.int .u32 x1.fs.fEpsilon), .v (.bool x1.fs.fLow), .v (.bool x1.fs.fHigh), .v (.bool x1.fs.fFmod), .v (.int .i64 x1.fs.fTo), .v (.int .i64 x1.fs.fMode), .v (.bool x1.fs.fTransA), .v (.bool x1.fs.fTransB), .v (.int .i64 x1.fs.fGroup), .arr x1.fs.fKernel.length (lm (ik .i64) x1.fs.fKernel), .arr x1.fs.fStrides.length (lm (ik .i64) x1.fs.fStrides), .arr x1.fs.fPads.length (lm (ik .i64) x1.fs.fPads), .arr x1.fs.fDilations.length (lm (ik .i64) x1.fs.fDilations), .v (.int .i64 x1.fs.fAuto), .v (.bool x1.fs.fCeil), .v (.bool x1.fs.fCount), .v (.int .i64 x1.fs.fBlock), .v (.int .i64 x1.fs.fStart), .v (.int .i64 x1.fs.fEnd), .v (.bool x1.fs.fHasEnd), .v (.int .i64 x1.fs.fValue.fType), .arr x1.fs.fValue.fDims.length (lm (ik .i64) x1.fs.fValue.fDims), .arr x1.fs.fValue.fF.length (lm (ik .u32) x1.fs.fValue.fF), .arr x1.fs.fValue.fI.length (lm (ik .i64) x1.fs.fValue.fI), .arr x1.fs.fValue.fB.length (lm (bk) x1.fs.fValue.fB)]))])) (fun t => infer_ask_attributes_k2 fu) ?_ (fun hj2 => ?_)
  ·rintro ⟨⟩
   show J _ (infer_ask_attributes_k2 fu) _
   unfold infer_ask_attributes_k2
   conv => arg 1; simp (disch := first | exact Zd | fail) only [ZZ, d87_at, simprocAttr, h1, e_h2]
   refine J.eq go_seq ?_
   conv => arg 1; simp (disch := first | exact Zd | fail) only [ZZ, d87_at, simprocAttr, h1, e_h2]
   refine J.eq ret_seq ?_
   conv => arg 1; simp (disch := first | exact Zd | fail) only [ZZ, d87_at, simprocAttr, h1, e_h2]
   refine J.eq ret_seq ?_
   refine J.some ?_
   simp (maxSteps := 20000000) (disch := first | exact Zd | fail) only [ZZ, d87_at, simprocAttr, h1, e_h2, FF, LN, NN, NT]
  ·conv => arg 1; simp (disch := first | exact Zd | fail) only [ZZ, d87_at, simprocAttr, h1, e_h2]
   refine J.jmp (t := ()) hj2 ?_ ?_
   ·first | rfl | (simp only [LN, NN, NT])
   ·first | (simp (disch := first | exact Zd | fail) only [RR, simprocAttr, LN, NN, NT]; done) | (simp (disch := first | exact Zd | fail) only [RR, simprocAttr, LN, fm_app, NN, NT]; done) | rfl
 ·conv => arg 1; simp (disch := first | exact Zd | fail) only [ZZ, d87_at, simprocAttr, h1, e_h2]
  refine J.jmp (t := ()) hj1 ?_ ?_
  ·first | rfl | (simp only [LN, NN, NT])
  ·first | (simp (disch := first | exact Zd | fail) only [RR, simprocAttr, LN, NN, NT]; done) | (simp (disch := first | exact Zd | fail) only [RR, simprocAttr, LN, fm_app, NN, NT]; done) | rfl
noncomputable def t87 (fu : Nat) : CallP := orE 137 (mkC (fun (t : T_infer_ask) => ([.agg (c_T_infer_ask t)] : List AV)) (fun t => infer_ask_rank fu t) e137) (noP)
theorem t87_ok (fu : Nat) : CpOK Tryz.prog (t87 fu ) := orE_ok (noP_ok) (mkC_ok (fun t b h => ok137 fu t  b h))
theorem ok87 (fu : Nat) (x1 : T_infer_ask) (r) (h : infer_ask_attributes fu x1 = some r) : PureOK Tryz.prog 87 [.agg (c_T_infer_ask x1)] (e87 r) :=
  pure_J mixed (cp := t87 fu ) (t87_ok fu  ) noI_ok i87 (w87 _ fu x1  (fun a0 r h => orE_hit (mkC_at (a := a0) (by intro a b h; first | (exact rfl) | (simp only [INJ, IJ] at h; first | exact h | (simp_all [Prod.ext_iff]) )) h))) h
/-! 143: (lattice/infer.ask).lists -/
open Aw (d143)
def d143_at := by have h := tabL Aw.d143.eq_1; simp only [AllAt, Nat.zero_add, Nat.reduceAdd] at h; exact h
theorem i143 : finfo Tryz.prog 143 d143 = some ⟨bodyOf Tryz.f143, [.tmp 2], [51]⟩ := finfo_at Tryz.func143 rfl (by kernel_rfl) (by kernel_rfl)
def e143 : (List T_Val) → AV := fun r => .fresh 8 r.length (fm c_T_Val r)
set_option maxHeartbeats 20000000 in
theorem w143 (cp : CallP) (fu : Nat) (x1 : T_infer_ask) : J (go Tryz.prog noC cp noI 0 [] d143 fu (fin Tryz.prog [.tmp 2] [51]) (bodyOf Tryz.f143) (initE 0 [.agg (c_T_infer_ask x1)]) [] []) (infer_ask_lists fu x1) e143 := by
 unfold infer_ask_lists e143
 refine J.chk fun h1 => ?_
 conv => arg 1; simp (disch := first | exact Zd | fail) only [bodyOf, Tryz.f143, ZZ, d143_at, simprocAttr, h1]
 refine J.eq go_seq ?_
 conv => arg 1; simp (disch := first | exact Zd | fail) only [ZZ, d143_at, simprocAttr, h1]
 refine J.joinS (fun (t : Unit) => ([(1, .ptr (0, 1, 0) 0 0), (3, .v (.int .i64 1)), (4, .v (.int .i64 2)), (8, .v (.int .i64 73)), (13, .v (.bool (decide ((73 : Int) = 65))))], [((0, 1, 0), .bx true ([.v (.int .i64 73), .v (.int .i64 x1.fs.fAxis), .arr x1.fs.fAxes.length (lm (ik .i64) x1.fs.fAxes), .v (.bool x1.fs.fHasAxes), .v (.bool x1.fs.fKeep), .v (.bool x1.fs.fNoop), .v (.bool x1.fs.fLast), .v (.bool x1.fs.fZero), .arr x1.fs.fPerm.length (lm (ik .i64) x1.fs.fPerm), .v (.bool x1.fs.fHasPerm), .v (.int .u32 x1.fs.fAlpha), .v (.int .u32 x1.fs.fBeta), .v (.int .u32 x1.fs.fEpsilon), .v (.bool x1.fs.fLow), .v (.bool x1.fs.fHigh), .v (.bool x1.fs.fFmod), .v (.int .i64 x1.fs.fTo), .v (.int .i64 x1.fs.fMode), .v (.bool x1.fs.fTransA), .v (.bool x1.fs.fTransB), .v (.int .i64 x1.fs.fGroup), .arr x1.fs.fKernel.length (lm (ik .i64) x1.fs.fKernel), .arr x1.fs.fStrides.length (lm (ik .i64) x1.fs.fStrides), .arr x1.fs.fPads.length (lm (ik .i64) x1.fs.fPads), .arr x1.fs.fDilations.length (lm (ik .i64) x1.fs.fDilations), .v (.int .i64 x1.fs.fAuto), .v (.bool x1.fs.fCeil), .v (.bool x1.fs.fCount), .v (.int .i64 x1.fs.fBlock), .v (.int .i64 x1.fs.fStart), .v (.int .i64 x1.fs.fEnd), .v (.bool x1.fs.fHasEnd), .v (.int .i64 x1.fs.fValue.fType), .arr x1.fs.fValue.fDims.length (lm (ik .i64) x1.fs.fValue.fDims), .arr x1.fs.fValue.fF.length (lm (ik .u32) x1.fs.fValue.fF), .arr x1.fs.fValue.fI.length (lm (ik .i64) x1.fs.fValue.fI), .arr x1.fs.fValue.fB.length (lm (bk) x1.fs.fValue.fB), .arr x1.fin.length (fm c_T_Val x1.fin), .v (.int .i64 x1.fouts)]))])) (fun t => infer_ask_lists_k1 fu) ?_ (fun hj1 => ?_)
 ·rintro ⟨⟩
  show J _ (infer_ask_lists_k1 fu) _
  unfold infer_ask_lists_k1
  refine J.some ?_
  simp (maxSteps := 20000000) (disch := first | exact Zd | fail) only [ZZ, d143_at, simprocAttr, h1, FF, LN, NN, NT]
 ·conv => arg 1; simp (disch := first | exact Zd | fail) only [ZZ, d143_at, simprocAttr, h1]
  refine J.jmp (t := ()) hj1 ?_ ?_
  ·first | rfl | (simp only [LN, NN, NT])
  ·first | (simp (disch := first | exact Zd | fail) only [RR, simprocAttr, LN, NN, NT]; done) | (simp (disch := first | exact Zd | fail) only [RR, simprocAttr, LN, fm_app, NN, NT]; done) | rfl
noncomputable def t143 (fu : Nat) : CallP := noP
theorem t143_ok (fu : Nat) : CpOK Tryz.prog (t143 fu ) := noP_ok
theorem ok143 (fu : Nat) (x1 : T_infer_ask) (r) (h : infer_ask_lists fu x1 = some r) : PureOK Tryz.prog 143 [.agg (c_T_infer_ask x1)] (e143 r) :=
  pure_J mixed (cp := t143 fu ) (t143_ok fu  ) noI_ok i143 (w143 _ fu x1  ) h
/-! 207: slices.IndexFunc[[]lattice/api.Val,lattice/api.Val] -/
open Aw (d207)
def d207_at := by have h := tabL Aw.d207.eq_1; simp only [AllAt, Nat.zero_add, Nat.reduceAdd] at h; exact h
theorem i207 : finfo Tryz.prog 207 d207 = some ⟨bodyOf Tryz.f207, [.tmp 4], [3]⟩ := finfo_at Tryz.func207 rfl (by kernel_rfl) (by kernel_rfl)
def e207 : Int → AV := fun r => .v (.int .i64 r)
set_option maxHeartbeats 20000000 in
theorem w207 (cp : CallP) (fu : Nat) (x1 : List T_Val) (p1 : T_Val → Option Bool) (fv_p1 : FuncId) (ca_p1 : List AV) (cap_p1 : Capt ca_p1) (hp_p1 : ∀ (y0 : T_Val) r, p1 y0 = some r → cp fv_p1 ((.agg (c_T_Val y0)) :: ca_p1) = some (.v (.bool r))) : J (go Tryz.prog noC cp noI 0 [] d207 fu (fin Tryz.prog [.tmp 4] [3]) (bodyOf Tryz.f207) (initE 0 [.arr x1.length (fm c_T_Val x1), .fn fv_p1 [] ca_p1]) [] []) (slices_IndexFunc_api_Val_api_Val fu x1 p1) e207 := by
 unfold slices_IndexFunc_api_Val_api_Val e207
 have c4_p1 := fun g => (cap_p1.1 g).1; have c3_p1 := fun g => (cap_p1.1 g).2.1; have b4_p1 := fun g => (cap_p1.1 g).2.2.1; have b3_p1 := fun g => (cap_p1.1 g).2.2.2; have nm_p1 := cap_p1.2
 conv => arg 1; simp (disch := first | exact Zd | fail) only [bodyOf, Tryz.f207, ZZ, d207_at, simprocAttr, c4_p1, c3_p1, b4_p1, b3_p1, nm_p1]
 refine J.eq go_seq ?_
 conv => arg 1; simp (disch := first | exact Zd | fail) only [ZZ, d207_at, simprocAttr, c4_p1, c3_p1, b4_p1, b3_p1, nm_p1]
 unfold slices_IndexFunc_api_Val_api_Val_W1
 refine J.loop (fun (s : Int) => ([(0, .arr x1.length (fm c_T_Val x1)), (1, .fn fv_p1 [] ca_p1), (7, .v (.int .i64 (x1.length : Int))), (8, .v (.int .i64 s))], [])) (fun next s => slices_IndexFunc_api_Val_api_Val_L1 fu p1 x1 next s) (s0 := 0) ?_ ?_ ?_
 ·first | rfl | (simp only [LN, NN, NT])
 ·first | (simp (disch := first | exact Zd | fail) only [RR, simprocAttr, LN, NN, NT]; done) | (simp (disch := first | exact Zd | fail) only [RR, simprocAttr, LN, fm_app, NN, NT]; done) | rfl
 rintro nx1 k1 hn1 x4
 show J _ (slices_IndexFunc_api_Val_api_Val_L1 fu p1 x1 nx1 x4) _
 unfold slices_IndexFunc_api_Val_api_Val_L1
 conv => arg 1; simp (disch := first | exact Zd | fail) only [ZZ, d207_at, simprocAttr, c4_p1, c3_p1, b4_p1, b3_p1, nm_p1]
 refine J.eq go_seq ?_
 conv => arg 1; simp (disch := first | exact Zd | fail) only [ZZ, d207_at, simprocAttr, c4_p1, c3_p1, b4_p1, b3_p1, nm_p1]
 refine J.ite (fun h1 => ?_) (fun h1 => ?_)
 ·have h1' := decide_eq_true h1
  have h1'' : decide ((x1.length : Int) ≤ x4) = false := decide_eq_false (by omega)
  conv => arg 1; simp (disch := first | exact Zd | fail) only [ZZ, d207_at, simprocAttr, c4_p1, c3_p1, b4_p1, b3_p1, nm_p1, h1'', h1']
  refine J.eq ret_seq ?_
  refine J.eq go_seq ?_
  refine J.at fun x7 h2 h3 h4 => ?_
  refine J.bind fun x8 h5 => ?_
  have e_h5 := hp_p1 _ _ h5
  try simp only [NN, NT, LN, simprocAttr, DT] at e_h5
  conv => arg 1; simp (disch := first | exact Zd | fail) only [ZZ, d207_at, simprocAttr, c4_p1, c3_p1, b4_p1, b3_p1, nm_p1, h1'', h1', fm_cut c_T_Val_len h4, fm_fit c_T_Val_len h4, fm_at c_T_Val_len h4, fm_at0 c_T_Val_len h4, e_h5]
  refine J.ite (fun h6 => ?_) (fun h6 => ?_)
  ·have h6' : x8 = true := h6
   refine J.some ?_
   simp (maxSteps := 20000000) (disch := first | exact Zd | fail) only [ZZ, d207_at, simprocAttr, c4_p1, c3_p1, b4_p1, b3_p1, nm_p1, h1'', h1', fm_cut c_T_Val_len h4, fm_fit c_T_Val_len h4, fm_at c_T_Val_len h4, fm_at0 c_T_Val_len h4, e_h5, h6', FF, LN, NN, NT]
  ·have h6' : x8 = false := Bool.eq_false_iff.2 h6
   conv => arg 1; simp (disch := first | exact Zd | fail) only [ZZ, d207_at, simprocAttr, c4_p1, c3_p1, b4_p1, b3_p1, nm_p1, h1'', h1', fm_cut c_T_Val_len h4, fm_fit c_T_Val_len h4, fm_at c_T_Val_len h4, fm_at0 c_T_Val_len h4, e_h5, h6']
   refine J.eq ret_seq ?_
   conv => arg 1; simp (disch := first | exact Zd | fail) only [ZZ, d207_at, simprocAttr, c4_p1, c3_p1, b4_p1, b3_p1, nm_p1, h1'', h1', fm_cut c_T_Val_len h4, fm_fit c_T_Val_len h4, fm_at c_T_Val_len h4, fm_at0 c_T_Val_len h4, e_h5, h6']
   refine J.next (s := wk .i64 (x4 + 1)) hn1 ?_ ?_
   ·first | rfl | (simp only [LN, NN, NT])
   ·first | (simp (disch := first | exact Zd | fail) only [RR, simprocAttr, LN, NN, NT]; done) | (simp (disch := first | exact Zd | fail) only [RR, simprocAttr, LN, fm_app, NN, NT]; done) | rfl
 ·have h1' := decide_eq_false h1
  have h1'' : decide ((x1.length : Int) ≤ x4) = true := decide_eq_true (by omega)
  conv => arg 1; simp (disch := first | exact Zd | fail) only [ZZ, d207_at, simprocAttr, c4_p1, c3_p1, b4_p1, b3_p1, nm_p1, h1'', h1']
  refine J.eq ret_seq ?_
  refine J.some ?_
  simp (maxSteps := 20000000) (disch := first | exact Zd | fail) only [ZZ, d207_at, simprocAttr, c4_p1, c3_p1, b4_p1, b3_p1, nm_p1, h1'', h1', FF, LN, NN, NT]
noncomputable def t207 (fu : Nat) (x1 : List T_Val) (p1 : T_Val → Option Bool) (fv_p1 : FuncId) (ca_p1 : List AV) : CallP := orE fv_p1 (mkC (fun (t : T_Val) => ((.agg (c_T_Val t)) :: ca_p1 : List AV)) (fun t => p1 t) (fun r => .v (.bool r))) (noP)
theorem t207_ok (fu : Nat) (x1 : List T_Val) (p1 : T_Val → Option Bool) (fv_p1 : FuncId) (ca_p1 : List AV) (cap_p1 : Capt ca_p1) (hp_p1 : ∀ (y0 : T_Val) r, p1 y0 = some r → PureOK Tryz.prog fv_p1 ((.agg (c_T_Val y0)) :: ca_p1) (.v (.bool r))) : CpOK Tryz.prog (t207 fu x1 p1 fv_p1 ca_p1) := orE_ok (noP_ok) (mkC_ok (fun t b h => hp_p1 t b h))
theorem ok207 (fu : Nat) (x1 : List T_Val) (p1 : T_Val → Option Bool) (fv_p1 : FuncId) (ca_p1 : List AV) (cap_p1 : Capt ca_p1) (hp_p1 : ∀ (y0 : T_Val) r, p1 y0 = some r → PureOK Tryz.prog fv_p1 ((.agg (c_T_Val y0)) :: ca_p1) (.v (.bool r))) (r) (h : slices_IndexFunc_api_Val_api_Val fu x1 p1 = some r) : PureOK Tryz.prog 207 [.arr x1.length (fm c_T_Val x1), .fn fv_p1 [] ca_p1] (e207 r) :=
  pure_J mixed (cp := t207 fu x1 p1 fv_p1 ca_p1) (t207_ok fu x1 p1 fv_p1 ca_p1 cap_p1 hp_p1) noI_ok i207 (w207 _ fu x1 p1 fv_p1 ca_p1 cap_p1 (fun y0 r h => orE_hit (mkC_at (a := y0) (by intro a b h; first | (exact rfl) | (simp only [INJ, IJ] at h; first | exact h | (simp_all [Prod.ext_iff]) )) h)) ) h
/-! 144: slices.ContainsFunc[[]lattice/api.Val,lattice/api.Val] -/
open Aw (d144)
def d144_at := by have h := tabL Aw.d144.eq_1; simp only [AllAt, Nat.zero_add, Nat.reduceAdd] at h; exact h
theorem i144 : finfo Tryz.prog 144 d144 = some ⟨bodyOf Tryz.f144, [.tmp 4], [4]⟩ := finfo_at Tryz.func144 rfl (by kernel_rfl) (by kernel_rfl)
def e144 : Bool → AV := fun r => .v (.bool r)
set_option maxHeartbeats 20000000 in
theorem w144 (cp : CallP) (fu : Nat) (x1 : List T_Val) (p1 : T_Val → Option Bool) (fv_p1 : FuncId) (ca_p1 : List AV) (cap_p1 : Capt ca_p1) (hp_p1 : ∀ (y0 : T_Val) r, p1 y0 = some r → cp fv_p1 ((.agg (c_T_Val y0)) :: ca_p1) = some (.v (.bool r))) (H207_0 : ∀ (a0 : List T_Val) r, slices_IndexFunc_api_Val_api_Val fu a0 p1 = some r → cp 207 [.arr a0.length (fm c_T_Val a0), .fn fv_p1 [] ca_p1] = some (.v (.int .i64 r))) : J (go Tryz.prog noC cp noI 0 [] d144 fu (fin Tryz.prog [.tmp 4] [4]) (bodyOf Tryz.f144) (initE 0 [.arr x1.length (fm c_T_Val x1), .fn fv_p1 [] ca_p1]) [] []) (slices_ContainsFunc_api_Val_api_Val fu x1 p1) e144 := by
 unfold slices_ContainsFunc_api_Val_api_Val e144
 have c4_p1 := fun g => (cap_p1.1 g).1; have c3_p1 := fun g => (cap_p1.1 g).2.1; have b4_p1 := fun g => (cap_p1.1 g).2.2.1; have b3_p1 := fun g => (cap_p1.1 g).2.2.2; have nm_p1 := cap_p1.2
 refine J.bind fun x2 h1 => ?_
 have e_h1 := H207_0 _ _ h1
 try simp only [NN, NT, LN, simprocAttr, DT] at e_h1
 refine J.some ?_
 simp (maxSteps := 20000000) (disch := first | exact Zd | fail) only [bodyOf, Tryz.f144, ZZ, d144_at, simprocAttr, c4_p1, c3_p1, b4_p1, b3_p1, nm_p1, e_h1, FF, LN, NN, NT]
noncomputable def t144 (fu : Nat) (x1 : List T_Val) (p1 : T_Val → Option Bool) (fv_p1 : FuncId) (ca_p1 : List AV) : CallP := orE 207 (mkC (fun (t : List T_Val) => ([.arr t.length (fm c_T_Val t), .fn fv_p1 [] ca_p1] : List AV)) (fun t => slices_IndexFunc_api_Val_api_Val fu t p1) e207) (orE fv_p1 (mkC (fun (t : T_Val) => ((.agg (c_T_Val t)) :: ca_p1 : List AV)) (fun t => p1 t) (fun r => .v (.bool r))) (noP))
theorem t144_ok (fu : Nat) (x1 : List T_Val) (p1 : T_Val → Option Bool) (fv_p1 : FuncId) (ca_p1 : List AV) (cap_p1 : Capt ca_p1) (hp_p1 : ∀ (y0 : T_Val) r, p1 y0 = some r → PureOK Tryz.prog fv_p1 ((.agg (c_T_Val y0)) :: ca_p1) (.v (.bool r))) : CpOK Tryz.prog (t144 fu x1 p1 fv_p1 ca_p1) := orE_ok (orE_ok (noP_ok) (mkC_ok (fun t b h => hp_p1 t b h))) (mkC_ok (fun t b h => ok207 fu t p1 fv_p1 ca_p1 cap_p1 hp_p1 b h))
theorem ok144 (fu : Nat) (x1 : List T_Val) (p1 : T_Val → Option Bool) (fv_p1 : FuncId) (ca_p1 : List AV) (cap_p1 : Capt ca_p1) (hp_p1 : ∀ (y0 : T_Val) r, p1 y0 = some r → PureOK Tryz.prog fv_p1 ((.agg (c_T_Val y0)) :: ca_p1) (.v (.bool r))) (r) (h : slices_ContainsFunc_api_Val_api_Val fu x1 p1 = some r) : PureOK Tryz.prog 144 [.arr x1.length (fm c_T_Val x1), .fn fv_p1 [] ca_p1] (e144 r) :=
  pure_J mixed (cp := t144 fu x1 p1 fv_p1 ca_p1) (t144_ok fu x1 p1 fv_p1 ca_p1 cap_p1 hp_p1) noI_ok i144 (w144 _ fu x1 p1 fv_p1 ca_p1 cap_p1 (fun y0 r h => orE_skip (fun hfv => mkC_none (by intro t h; simp at h)) (orE_hit (mkC_at (a := y0) (by intro a b h; first | (exact rfl) | (simp only [INJ, IJ] at h; first | exact h | (simp_all [Prod.ext_iff]) )) h))) (fun a0 r h => orE_hit (mkC_at (a := a0) (by intro a b h; first | (exact rfl) | (simp only [INJ, IJ] at h; first | exact h | (simp_all [Prod.ext_iff]) )) h))) h
/-! 104: slices.Equal[[]int,int] -/
open Aw (d104)
def d104_at := by have h := tabL Aw.d104.eq_1; simp only [AllAt, Nat.zero_add, Nat.reduceAdd] at h; exact h
theorem i104 : finfo Tryz.prog 104 d104 = some ⟨bodyOf Tryz.f104, [.tmp 4], [4]⟩ := finfo_at Tryz.func104 rfl (by kernel_rfl) (by kernel_rfl)
def e104 : Bool → AV := fun r => .v (.bool r)
set_option maxHeartbeats 20000000 in
theorem w104 (cp : CallP) (fu : Nat) (x1 : List Int) (x2 : List Int) : J (go Tryz.prog noC cp noI 0 [] d104 fu (fin Tryz.prog [.tmp 4] [4]) (bodyOf Tryz.f104) (initE 0 [.arr x1.length (lm (ik .i64) x1), .arr x2.length (lm (ik .i64) x2)]) [] []) (slices_Equal_int fu x1 x2) e104 := by
 unfold slices_Equal_int e104
 conv => arg 1; simp (disch := first | exact Zd | fail) only [bodyOf, Tryz.f104, ZZ, d104_at, simprocAttr]
 refine J.eq go_seq ?_
 conv => arg 1; simp (disch := first | exact Zd | fail) only [ZZ, d104_at, simprocAttr]
 refine J.ite (fun h1 => ?_) (fun h1 => ?_)
 ·have h1' := decide_eq_true h1
  conv => arg 1; simp (disch := first | exact Zd | fail) only [ZZ, d104_at, simprocAttr, h1']
  refine J.eq ret_seq ?_
  refine J.eq go_seq ?_
  conv => arg 1; simp (disch := first | exact Zd | fail) only [ZZ, d104_at, simprocAttr, h1']
  unfold slices_Equal_int_W1
  refine J.loop (fun (s : Int) => ([(0, .arr x1.length (lm (ik .i64) x1)), (1, .arr x2.length (lm (ik .i64) x2)), (12, .v (.int .i64 (x1.length : Int))), (13, .v (.int .i64 s))], [])) (fun next s => slices_Equal_int_L1 fu x1 x2 next s) (s0 := 0) ?_ ?_ ?_
  ·first | rfl | (simp only [LN, NN, NT])
  ·first | (simp (disch := first | exact Zd | fail) only [RR, simprocAttr, LN, NN, NT]; done) | (simp (disch := first | exact Zd | fail) only [RR, simprocAttr, LN, fm_app, NN, NT]; done) | rfl
  rintro nx1 k1 hn1 x5
  show J _ (slices_Equal_int_L1 fu x1 x2 nx1 x5) _
  unfold slices_Equal_int_L1
  conv => arg 1; simp (disch := first | exact Zd | fail) only [ZZ, d104_at, simprocAttr, h1']
  refine J.eq go_seq ?_
  conv => arg 1; simp (disch := first | exact Zd | fail) only [ZZ, d104_at, simprocAttr, h1']
  refine J.ite (fun h2 => ?_) (fun h2 => ?_)
  ·have h2' := decide_eq_true h2
   have h2'' : decide ((x1.length : Int) ≤ x5) = false := decide_eq_false (by omega)
   conv => arg 1; simp (disch := first | exact Zd | fail) only [ZZ, d104_at, simprocAttr, h1', h2'', h2']
   refine J.eq ret_seq ?_
   refine J.eq go_seq ?_
   refine J.at fun x8 h3 h4 h5 => ?_
   refine J.at fun x9 h6 h7 h8 => ?_
   conv => arg 1; simp (disch := first | exact Zd | fail) only [ZZ, d104_at, simprocAttr, h1', h2'', h2', lm_ik h5, lm_ik h8]
   refine J.ite (fun h9 => ?_) (fun h9 => ?_)
   ·have h9' := decide_eq_true h9
    conv => arg 1; simp (disch := first | exact Zd | fail) only [ZZ, d104_at, simprocAttr, h1', h2'', h2', lm_ik h5, lm_ik h8, h9']
    refine J.eq ret_seq ?_
    conv => arg 1; simp (disch := first | exact Zd | fail) only [ZZ, d104_at, simprocAttr, h1', h2'', h2', lm_ik h5, lm_ik h8, h9']
    refine J.next (s := wk .i64 (x5 + 1)) hn1 ?_ ?_
    ·first | rfl | (simp only [LN, NN, NT])
    ·first | (simp (disch := first | exact Zd | fail) only [RR, simprocAttr, LN, NN, NT]; done) | (simp (disch := first | exact Zd | fail) only [RR, simprocAttr, LN, fm_app, NN, NT]; done) | rfl
   ·have h9' := decide_eq_false h9
    refine J.some ?_
    simp (maxSteps := 20000000) (disch := first | exact Zd | fail) only [ZZ, d104_at, simprocAttr, h1', h2'', h2', lm_ik h5, lm_ik h8, h9', FF, LN, NN, NT]
  ·have h2' := decide_eq_false h2
   have h2'' : decide ((x1.length : Int) ≤ x5) = true := decide_eq_true (by omega)
   conv => arg 1; simp (disch := first | exact Zd | fail) only [ZZ, d104_at, simprocAttr, h1', h2'', h2']
   refine J.eq ret_seq ?_
   refine J.some ?_
   simp (maxSteps := 20000000) (disch := first | exact Zd | fail) only [ZZ, d104_at, simprocAttr, h1', h2'', h2', FF, LN, NN, NT]
 ·have h1' := decide_eq_false h1
  refine J.some ?_
  simp (maxSteps := 20000000) (disch := first | exact Zd | fail) only [ZZ, d104_at, simprocAttr, h1', FF, LN, NN, NT]
noncomputable def t104 (fu : Nat) : CallP := noP
theorem t104_ok (fu : Nat) : CpOK Tryz.prog (t104 fu ) := noP_ok
theorem ok104 (fu : Nat) (x1 : List Int) (x2 : List Int) (r) (h : slices_Equal_int fu x1 x2 = some r) : PureOK Tryz.prog 104 [.arr x1.length (lm (ik .i64) x1), .arr x2.length (lm (ik .i64) x2)] (e104 r) :=
  pure_J mixed (cp := t104 fu ) (t104_ok fu  ) noI_ok i104 (w104 _ fu x1 x2  ) h
/-! 146: lattice/infer.held -/
def d146 : List (Nat × List Nat) := [(0, [0, 2]), (0, []), (0, [1, 3, 4, 5, 6, 7, 8, 9, 10, 11, 12, 13, 14, 15, 16, 17, 18, 19, 20, 21, 22, 23, 24, 25, 26])]
def d146_at := by have h := tabL d146.eq_1; simp only [AllAt, Nat.zero_add, Nat.reduceAdd] at h; exact h
theorem i146 : finfo Tryz.prog 146 d146 = some ⟨bodyOf Tryz.f146, [.tmp 2], [4]⟩ := finfo_at Tryz.func146 rfl (by kernel_rfl) (by kernel_rfl)
def e146 : Bool → AV := fun r => .v (.bool r)
set_option maxHeartbeats 20000000 in
theorem w146 (cp : CallP) (fu : Nat) (x1 : T_Val) (H23_0 : ∀ (a0 : T_Tensor) r, tens_Check fu a0 = some r → cp 23 [.agg (c_T_Tensor a0)] = some (.v (.int .i64 r))) (H104_0 : ∀ (a0 : List Int) (a1 : List Int) r, slices_Equal_int fu a0 a1 = some r → cp 104 [.arr a0.length (lm (ik .i64) a0), .arr a1.length (lm (ik .i64) a1)] = some (.v (.bool r))) : J (go Tryz.prog noC cp noI 0 [] d146 fu (fin Tryz.prog [.tmp 2] [4]) (bodyOf Tryz.f146) (initE 0 [.agg (c_T_Val x1)]) [] []) (infer_held fu x1) e146 := by
 unfold infer_held e146
 conv => arg 1; simp (disch := first | exact Zd | fail) only [bodyOf, Tryz.f146, ZZ, d146_at, simprocAttr]
 refine J.eq go_seq ?_
 conv => arg 1; simp (disch := first | exact Zd | fail) only [ZZ, d146_at, simprocAttr]
 refine J.ite (fun h1 => ?_) (fun h1 => ?_)
 ·have h1' : x1.fConst = true := h1
  refine J.bind fun x2 h2 => ?_
  have e_h2 := H23_0 _ _ h2
  try simp only [NN, NT, LN, simprocAttr, DT] at e_h2
  conv => arg 1; simp (disch := first | exact Zd | fail) only [ZZ, d146_at, simprocAttr, h1', e_h2]
  refine J.ite (fun h3 => ?_) (fun h3 => ?_)
  ·have h3' := decide_eq_true h3
   conv => arg 1; simp (disch := first | exact Zd | fail) only [ZZ, d146_at, simprocAttr, h1', e_h2, h3']
   refine J.ite (fun h4 => ?_) (fun h4 => ?_)
   ·have h4' := decide_eq_true h4
    refine J.bind fun x3 h5 => ?_
    have e_h5 := H104_0 _ _ _ h5
    try simp only [NN, NT, LN, simprocAttr, DT] at e_h5
    conv => arg 1; simp (disch := first | exact Zd | fail) only [ZZ, d146_at, simprocAttr, h1', e_h2, h3', h4', e_h5]
    refine J.eq ret_seq ?_
    refine J.some ?_
    simp (maxSteps := 20000000) (disch := first | exact Zd | fail) only [ZZ, d146_at, simprocAttr, h1', e_h2, h3', h4', e_h5, FF, LN, NN, NT]
   ·have h4' := decide_eq_false h4
    conv => arg 1; simp (disch := first | exact Zd | fail) only [ZZ, d146_at, simprocAttr, h1', e_h2, h3', h4']
    refine J.eq ret_seq ?_
    refine J.some ?_
    simp (maxSteps := 20000000) (disch := first | exact Zd | fail) only [ZZ, d146_at, simprocAttr, h1', e_h2, h3', h4', FF, LN, NN, NT]
  ·have h3' := decide_eq_false h3
   conv => arg 1; simp (disch := first | exact Zd | fail) only [ZZ, d146_at, simprocAttr, h1', e_h2, h3']
   refine J.eq ret_seq ?_
   refine J.some ?_
   simp (maxSteps := 20000000) (disch := first | exact Zd | fail) only [ZZ, d146_at, simprocAttr, h1', e_h2, h3', FF, LN, NN, NT]
 ·have h1' : x1.fConst = false := Bool.eq_false_iff.2 h1
  conv => arg 1; simp (disch := first | exact Zd | fail) only [ZZ, d146_at, simprocAttr, h1']
  refine J.eq ret_seq ?_
  refine J.some ?_
  simp (maxSteps := 20000000) (disch := first | exact Zd | fail) only [ZZ, d146_at, simprocAttr, h1', FF, LN, NN, NT]
noncomputable def t146 (fu : Nat) : CallP := orE 23 (mkC (fun (t : T_Tensor) => ([.agg (c_T_Tensor t)] : List AV)) (fun t => tens_Check fu t) e23) (orE 104 (mkC (fun (t : (List Int) × (List Int)) => ([.arr t.1.length (lm (ik .i64) t.1), .arr t.2.length (lm (ik .i64) t.2)] : List AV)) (fun t => slices_Equal_int fu t.1 t.2) e104) (noP))
theorem t146_ok (fu : Nat) : CpOK Tryz.prog (t146 fu ) := orE_ok (orE_ok (noP_ok) (mkC_ok (fun t b h => ok104 fu t.1 t.2  b h))) (mkC_ok (fun t b h => ok23 fu t  b h))
theorem ok146 (fu : Nat) (x1 : T_Val) (r) (h : infer_held fu x1 = some r) : PureOK Tryz.prog 146 [.agg (c_T_Val x1)] (e146 r) :=
  pure_J mixed (cp := t146 fu ) (t146_ok fu  ) noI_ok i146 (w146 _ fu x1  (fun a0 r h => orE_hit (mkC_at (a := a0) (by intro a b h; first | (exact rfl) | (simp only [INJ, IJ] at h; first | exact h | (simp_all [Prod.ext_iff]) )) h)) (fun a0 a1 r h => orE_miss (by decide) (orE_hit (mkC_at (a := (a0, a1)) (by intro a b h; first | (exact rfl) | (simp only [INJ, IJ] at h; first | exact h | (simp_all [Prod.ext_iff]) )) h)))) h
/-! 145: (lattice/infer.ask).told$1 -/
def d145 : List (Nat × List Nat) := [(0, [0, 2]), (0, []), (0, [1, 3, 4, 5])]
def d145_at := by have h := tabL d145.eq_1; simp only [AllAt, Nat.zero_add, Nat.reduceAdd] at h; exact h
theorem i145 : finfo Tryz.prog 145 d145 = some ⟨bodyOf Tryz.f145, [.tmp 2], [4]⟩ := finfo_at Tryz.func145 rfl (by kernel_rfl) (by kernel_rfl)
def e145 : Bool → AV := fun r => .v (.bool r)
set_option maxHeartbeats 20000000 in
theorem w145 (cp : CallP) (fu : Nat) (x1 : T_Val) (H146_0 : ∀ (a0 : T_Val) r, infer_held fu a0 = some r → cp 146 [.agg (c_T_Val a0)] = some (.v (.bool r))) : J (go Tryz.prog noC cp noI 0 [] d145 fu (fin Tryz.prog [.tmp 2] [4]) (bodyOf Tryz.f145) (initE 0 [.agg (c_T_Val x1)]) [] []) (infer_ask_told_1 fu x1) e145 := by
 unfold infer_ask_told_1 e145
 refine J.bind fun x2 h1 => ?_
 have e_h1 := H146_0 _ _ h1
 try simp only [NN, NT, LN, simprocAttr, DT] at e_h1
 refine J.some ?_
 simp (maxSteps := 20000000) (disch := first | exact Zd | fail) only [bodyOf, Tryz.f145, ZZ, d145_at, simprocAttr, e_h1, FF, LN, NN, NT]
noncomputable def t145 (fu : Nat) : CallP := orE 146 (mkC (fun (t : T_Val) => ([.agg (c_T_Val t)] : List AV)) (fun t => infer_held fu t) e146) (noP)
theorem t145_ok (fu : Nat) : CpOK Tryz.prog (t145 fu ) := orE_ok (noP_ok) (mkC_ok (fun t b h => ok146 fu t  b h))
theorem ok145 (fu : Nat) (x1 : T_Val) (r) (h : infer_ask_told_1 fu x1 = some r) : PureOK Tryz.prog 145 [.agg (c_T_Val x1)] (e145 r) :=
  pure_J mixed (cp := t145 fu ) (t145_ok fu  ) noI_ok i145 (w145 _ fu x1  (fun a0 r h => orE_hit (mkC_at (a := a0) (by intro a b h; first | (exact rfl) | (simp only [INJ, IJ] at h; first | exact h | (simp_all [Prod.ext_iff]) )) h))) h
/-! 147: (lattice/infer.ask).told$2 -/
def d147 : List (Nat × List Nat) := [(0, [0, 2]), (0, []), (0, [1, 3, 4, 5, 6])]
def d147_at := by have h := tabL d147.eq_1; simp only [AllAt, Nat.zero_add, Nat.reduceAdd] at h; exact h
theorem i147 : finfo Tryz.prog 147 d147 = some ⟨bodyOf Tryz.f147, [.tmp 2], [4]⟩ := finfo_at Tryz.func147 rfl (by kernel_rfl) (by kernel_rfl)
def e147 : Bool → AV := fun r => .v (.bool r)
set_option maxHeartbeats 20000000 in
theorem w147 (cp : CallP) (fu : Nat) (x1 : T_Val) : J (go Tryz.prog noC cp noI 0 [] d147 fu (fin Tryz.prog [.tmp 2] [4]) (bodyOf Tryz.f147) (initE 0 [.agg (c_T_Val x1)]) [] []) (infer_ask_told_2 fu x1) e147 := by
 unfold infer_ask_told_2 e147
 refine J.some ?_
 simp (maxSteps := 20000000) (disch := first | exact Zd | fail) only [bodyOf, Tryz.f147, ZZ, d147_at, simprocAttr, FF, LN, NN, NT]
noncomputable def t147 (fu : Nat) : CallP := noP
theorem t147_ok (fu : Nat) : CpOK Tryz.prog (t147 fu ) := noP_ok
theorem ok147 (fu : Nat) (x1 : T_Val) (r) (h : infer_ask_told_2 fu x1 = some r) : PureOK Tryz.prog 147 [.agg (c_T_Val x1)] (e147 r) :=
  pure_J mixed (cp := t147 fu ) (t147_ok fu  ) noI_ok i147 (w147 _ fu x1  ) h
/-! 208: slices.IndexFunc[[]int64,int64] -/
def d208 : List (Nat × List Nat) := [(0, [4]), (0, [0, 1, 7, 8]), (0, [6]), (0, [5]), (0, []), (0, []), (0, [10]), (0, []), (0, [11, 12, 13, 14, 15]), (0, []), (0, [17]), (0, []), (0, [18]), (0, []), (0, [])]
def d208_at := by have h := tabL d208.eq_1; simp only [AllAt, Nat.zero_add, Nat.reduceAdd] at h; exact h
theorem i208 : finfo Tryz.prog 208 d208 = some ⟨bodyOf Tryz.f208, [.tmp 4], [3]⟩ := finfo_at Tryz.func208 rfl (by kernel_rfl) (by kernel_rfl)
def e208 : Int → AV := fun r => .v (.int .i64 r)
set_option maxHeartbeats 20000000 in
theorem w208 (cp : CallP) (fu : Nat) (x1 : List Int) (p1 : Int → Option Bool) (fv_p1 : FuncId) (ca_p1 : List AV) (cap_p1 : Capt ca_p1) (hp_p1 : ∀ (y0 : Int) r, p1 y0 = some r → cp fv_p1 ((.v (.int .i64 y0)) :: ca_p1) = some (.v (.bool r))) : J (go Tryz.prog noC cp noI 0 [] d208 fu (fin Tryz.prog [.tmp 4] [3]) (bodyOf Tryz.f208) (initE 0 [.arr x1.length (lm (ik .i64) x1), .fn fv_p1 [] ca_p1]) [] []) (slices_IndexFunc_int64 fu x1 p1) e208 := by
 unfold slices_IndexFunc_int64 e208
 have c4_p1 := fun g => (cap_p1.1 g).1; have c3_p1 := fun g => (cap_p1.1 g).2.1; have b4_p1 := fun g => (cap_p1.1 g).2.2.1; have b3_p1 := fun g => (cap_p1.1 g).2.2.2; have nm_p1 := cap_p1.2
 conv => arg 1; simp (disch := first | exact Zd | fail) only [bodyOf, Tryz.f208, ZZ, d208_at, simprocAttr, c4_p1, c3_p1, b4_p1, b3_p1, nm_p1]
 refine J.eq go_seq ?_
 conv => arg 1; simp (disch := first | exact Zd | fail) only [ZZ, d208_at, simprocAttr, c4_p1, c3_p1, b4_p1, b3_p1, nm_p1]
 unfold slices_IndexFunc_int64_W1
 refine J.loop (fun (s : Int) => ([(0, .arr x1.length (lm (ik .i64) x1)), (1, .fn fv_p1 [] ca_p1), (7, .v (.int .i64 (x1.length : Int))), (8, .v (.int .i64 s))], [])) (fun next s => slices_IndexFunc_int64_L1 fu p1 x1 next s) (s0 := 0) ?_ ?_ ?_
 ·first | rfl | (simp only [LN, NN, NT])
 ·first | (simp (disch := first | exact Zd | fail) only [RR, simprocAttr, LN, NN, NT]; done) | (simp (disch := first | exact Zd | fail) only [RR, simprocAttr, LN, fm_app, NN, NT]; done) | rfl
 rintro nx1 k1 hn1 x4
 show J _ (slices_IndexFunc_int64_L1 fu p1 x1 nx1 x4) _
 unfold slices_IndexFunc_int64_L1
 conv => arg 1; simp (disch := first | exact Zd | fail) only [ZZ, d208_at, simprocAttr, c4_p1, c3_p1, b4_p1, b3_p1, nm_p1]
 refine J.eq go_seq ?_
 conv => arg 1; simp (disch := first | exact Zd | fail) only [ZZ, d208_at, simprocAttr, c4_p1, c3_p1, b4_p1, b3_p1, nm_p1]
 refine J.ite (fun h1 => ?_) (fun h1 => ?_)
 ·have h1' := decide_eq_true h1
  have h1'' : decide ((x1.length : Int) ≤ x4) = false := decide_eq_false (by omega)
  conv => arg 1; simp (disch := first | exact Zd | fail) only [ZZ, d208_at, simprocAttr, c4_p1, c3_p1, b4_p1, b3_p1, nm_p1, h1'', h1']
  refine J.eq ret_seq ?_
  refine J.eq go_seq ?_
  refine J.at fun x7 h2 h3 h4 => ?_
  refine J.bind fun x8 h5 => ?_
  have e_h5 := hp_p1 _ _ h5
  try simp only [NN, NT, LN, simprocAttr, DT] at e_h5
  conv => arg 1; simp (disch := first | exact Zd | fail) only [ZZ, d208_at, simprocAttr, c4_p1, c3_p1, b4_p1, b3_p1, nm_p1, h1'', h1', lm_ik h4, e_h5]
  refine J.ite (fun h6 => ?_) (fun h6 => ?_)
  ·have h6' : x8 = true := h6
   refine J.some ?_
   simp (maxSteps := 20000000) (disch := first | exact Zd | fail) only [ZZ, d208_at, simprocAttr, c4_p1, c3_p1, b4_p1, b3_p1, nm_p1, h1'', h1', lm_ik h4, e_h5, h6', FF, LN, NN, NT]
  ·have h6' : x8 = false := Bool.eq_false_iff.2 h6
   conv => arg 1; simp (disch := first | exact Zd | fail) only [ZZ, d208_at, simprocAttr, c4_p1, c3_p1, b4_p1, b3_p1, nm_p1, h1'', h1', lm_ik h4, e_h5, h6']
   refine J.eq ret_seq ?_
   conv => arg 1; simp (disch := first | exact Zd | fail) only [ZZ, d208_at, simprocAttr, c4_p1, c3_p1, b4_p1, b3_p1, nm_p1, h1'', h1', lm_ik h4, e_h5, h6']
   refine J.next (s := wk .i64 (x4 + 1)) hn1 ?_ ?_
   ·first | rfl | (simp only [LN, NN, NT])
   ·first | (simp (disch := first | exact Zd | fail) only [RR, simprocAttr, LN, NN, NT]; done) | (simp (disch := first | exact Zd | fail) only [RR, simprocAttr, LN, fm_app, NN, NT]; done) | rfl
 ·have h1' := decide_eq_false h1
  have h1'' : decide ((x1.length : Int) ≤ x4) = true := decide_eq_true (by omega)
  conv => arg 1; simp (disch := first | exact Zd | fail) only [ZZ, d208_at, simprocAttr, c4_p1, c3_p1, b4_p1, b3_p1, nm_p1, h1'', h1']
  refine J.eq ret_seq ?_
  refine J.some ?_
  simp (maxSteps := 20000000) (disch := first | exact Zd | fail) only [ZZ, d208_at, simprocAttr, c4_p1, c3_p1, b4_p1, b3_p1, nm_p1, h1'', h1', FF, LN, NN, NT]
noncomputable def t208 (fu : Nat) (x1 : List Int) (p1 : Int → Option Bool) (fv_p1 : FuncId) (ca_p1 : List AV) : CallP := orE fv_p1 (mkC (fun (t : Int) => ((.v (.int .i64 t)) :: ca_p1 : List AV)) (fun t => p1 t) (fun r => .v (.bool r))) (noP)
theorem t208_ok (fu : Nat) (x1 : List Int) (p1 : Int → Option Bool) (fv_p1 : FuncId) (ca_p1 : List AV) (cap_p1 : Capt ca_p1) (hp_p1 : ∀ (y0 : Int) r, p1 y0 = some r → PureOK Tryz.prog fv_p1 ((.v (.int .i64 y0)) :: ca_p1) (.v (.bool r))) : CpOK Tryz.prog (t208 fu x1 p1 fv_p1 ca_p1) := orE_ok (noP_ok) (mkC_ok (fun t b h => hp_p1 t b h))
theorem ok208 (fu : Nat) (x1 : List Int) (p1 : Int → Option Bool) (fv_p1 : FuncId) (ca_p1 : List AV) (cap_p1 : Capt ca_p1) (hp_p1 : ∀ (y0 : Int) r, p1 y0 = some r → PureOK Tryz.prog fv_p1 ((.v (.int .i64 y0)) :: ca_p1) (.v (.bool r))) (r) (h : slices_IndexFunc_int64 fu x1 p1 = some r) : PureOK Tryz.prog 208 [.arr x1.length (lm (ik .i64) x1), .fn fv_p1 [] ca_p1] (e208 r) :=
  pure_J mixed (cp := t208 fu x1 p1 fv_p1 ca_p1) (t208_ok fu x1 p1 fv_p1 ca_p1 cap_p1 hp_p1) noI_ok i208 (w208 _ fu x1 p1 fv_p1 ca_p1 cap_p1 (fun y0 r h => orE_hit (mkC_at (a := y0) (by intro a b h; first | (exact rfl) | (simp only [INJ, IJ] at h; first | exact h | (simp_all [Prod.ext_iff]) )) h)) ) h
/-! 149: slices.ContainsFunc[[]int64,int64] -/
def d149 : List (Nat × List Nat) := [(0, [4]), (0, []), (0, [0, 1, 5, 6, 7, 8])]
def d149_at := by have h := tabL d149.eq_1; simp only [AllAt, Nat.zero_add, Nat.reduceAdd] at h; exact h
theorem i149 : finfo Tryz.prog 149 d149 = some ⟨bodyOf Tryz.f149, [.tmp 4], [4]⟩ := finfo_at Tryz.func149 rfl (by kernel_rfl) (by kernel_rfl)
def e149 : Bool → AV := fun r => .v (.bool r)
set_option maxHeartbeats 20000000 in
theorem w149 (cp : CallP) (fu : Nat) (x1 : List Int) (p1 : Int → Option Bool) (fv_p1 : FuncId) (ca_p1 : List AV) (cap_p1 : Capt ca_p1) (hp_p1 : ∀ (y0 : Int) r, p1 y0 = some r → cp fv_p1 ((.v (.int .i64 y0)) :: ca_p1) = some (.v (.bool r))) (H208_0 : ∀ (a0 : List Int) r, slices_IndexFunc_int64 fu a0 p1 = some r → cp 208 [.arr a0.length (lm (ik .i64) a0), .fn fv_p1 [] ca_p1] = some (.v (.int .i64 r))) : J (go Tryz.prog noC cp noI 0 [] d149 fu (fin Tryz.prog [.tmp 4] [4]) (bodyOf Tryz.f149) (initE 0 [.arr x1.length (lm (ik .i64) x1), .fn fv_p1 [] ca_p1]) [] []) (slices_ContainsFunc_int64 fu x1 p1) e149 := by
 unfold slices_ContainsFunc_int64 e149
 have c4_p1 := fun g => (cap_p1.1 g).1; have c3_p1 := fun g => (cap_p1.1 g).2.1; have b4_p1 := fun g => (cap_p1.1 g).2.2.1; have b3_p1 := fun g => (cap_p1.1 g).2.2.2; have nm_p1 := cap_p1.2
 refine J.bind fun x2 h1 => ?_
 have e_h1 := H208_0 _ _ h1
 try simp only [NN, NT, LN, simprocAttr, DT] at e_h1
 refine J.some ?_
 simp (maxSteps := 20000000) (disch := first | exact Zd | fail) only [bodyOf, Tryz.f149, ZZ, d149_at, simprocAttr, c4_p1, c3_p1, b4_p1, b3_p1, nm_p1, e_h1, FF, LN, NN, NT]
noncomputable def t149 (fu : Nat) (x1 : List Int) (p1 : Int → Option Bool) (fv_p1 : FuncId) (ca_p1 : List AV) : CallP := orE 208 (mkC (fun (t : List Int) => ([.arr t.length (lm (ik .i64) t), .fn fv_p1 [] ca_p1] : List AV)) (fun t => slices_IndexFunc_int64 fu t p1) e208) (orE fv_p1 (mkC (fun (t : Int) => ((.v (.int .i64 t)) :: ca_p1 : List AV)) (fun t => p1 t) (fun r => .v (.bool r))) (noP))
theorem t149_ok (fu : Nat) (x1 : List Int) (p1 : Int → Option Bool) (fv_p1 : FuncId) (ca_p1 : List AV) (cap_p1 : Capt ca_p1) (hp_p1 : ∀ (y0 : Int) r, p1 y0 = some r → PureOK Tryz.prog fv_p1 ((.v (.int .i64 y0)) :: ca_p1) (.v (.bool r))) : CpOK Tryz.prog (t149 fu x1 p1 fv_p1 ca_p1) := orE_ok (orE_ok (noP_ok) (mkC_ok (fun t b h => hp_p1 t b h))) (mkC_ok (fun t b h => ok208 fu t p1 fv_p1 ca_p1 cap_p1 hp_p1 b h))
theorem ok149 (fu : Nat) (x1 : List Int) (p1 : Int → Option Bool) (fv_p1 : FuncId) (ca_p1 : List AV) (cap_p1 : Capt ca_p1) (hp_p1 : ∀ (y0 : Int) r, p1 y0 = some r → PureOK Tryz.prog fv_p1 ((.v (.int .i64 y0)) :: ca_p1) (.v (.bool r))) (r) (h : slices_ContainsFunc_int64 fu x1 p1 = some r) : PureOK Tryz.prog 149 [.arr x1.length (lm (ik .i64) x1), .fn fv_p1 [] ca_p1] (e149 r) :=
  pure_J mixed (cp := t149 fu x1 p1 fv_p1 ca_p1) (t149_ok fu x1 p1 fv_p1 ca_p1 cap_p1 hp_p1) noI_ok i149 (w149 _ fu x1 p1 fv_p1 ca_p1 cap_p1 (fun y0 r h => orE_skip (fun hfv => mkC_none (by intro t h; simp at h)) (orE_hit (mkC_at (a := y0) (by intro a b h; first | (exact rfl) | (simp only [INJ, IJ] at h; first | exact h | (simp_all [Prod.ext_iff]) )) h))) (fun a0 r h => orE_hit (mkC_at (a := a0) (by intro a b h; first | (exact rfl) | (simp only [INJ, IJ] at h; first | exact h | (simp_all [Prod.ext_iff]) )) h))) h
/-! 150: (lattice/infer.ask).told$3$1 -/
def d150 : List (Nat × List Nat) := [(0, [2]), (0, []), (0, [0, 3, 4])]
def d150_at := by have h := tabL d150.eq_1; simp only [AllAt, Nat.zero_add, Nat.reduceAdd] at h; exact h
theorem i150 : finfo Tryz.prog 150 d150 = some ⟨bodyOf Tryz.f150, [.tmp 2], [4]⟩ := finfo_at Tryz.func150 rfl (by kernel_rfl) (by kernel_rfl)
def e150 : Bool → AV := fun r => .v (.bool r)
set_option maxHeartbeats 20000000 in
theorem w150 (cp : CallP) (fu : Nat) (x1 : Int) : J (go Tryz.prog noC cp noI 0 [] d150 fu (fin Tryz.prog [.tmp 2] [4]) (bodyOf Tryz.f150) (initE 0 [.v (.int .i64 x1)]) [] []) (infer_ask_told_3_1 fu x1) e150 := by
 unfold infer_ask_told_3_1 e150
 refine J.some ?_
 simp (maxSteps := 20000000) (disch := first | exact Zd | fail) only [bodyOf, Tryz.f150, ZZ, d150_at, simprocAttr, FF, LN, NN, NT]
noncomputable def t150 (fu : Nat) : CallP := noP
theorem t150_ok (fu : Nat) : CpOK Tryz.prog (t150 fu ) := noP_ok
theorem ok150 (fu : Nat) (x1 : Int) (r) (h : infer_ask_told_3_1 fu x1 = some r) : PureOK Tryz.prog 150 [.v (.int .i64 x1)] (e150 r) :=
  pure_J mixed (cp := t150 fu ) (t150_ok fu  ) noI_ok i150 (w150 _ fu x1  ) h
end Go.Av
