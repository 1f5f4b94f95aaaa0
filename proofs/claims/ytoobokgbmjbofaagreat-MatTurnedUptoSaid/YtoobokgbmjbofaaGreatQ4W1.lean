/- The walks of the plain functions. Made by a program of mine. Conditions: none. -/
import Derived.Test.YtoobokgbmjbofaaGreatQ4S
import Derived.Test.YtoobokgbmjbofaaGreatQ4A
import Derived.Test.YtoobokgbmjbofaaGreatProg
set_option linter.unusedVariables false
set_option linter.unusedSimpArgs false
set_option linter.defProp false
set_option maxRecDepth 20000
open Go Go.Proofs
namespace Go.Av
theorem mixed : Tryz.prog.follows .mixedOrders = true := by kernel_rfl
def bodyOf (f : Func) : Code := f.body.getD .skip
theorem tv2 : tview Tryz.prog 2 = some (.int .i64) := by kernel_rfl
theorem ts2 : tsize Tryz.prog 2 = 1 := by kernel_rfl
def pt2 := @ptW _ _ _ tv2 rfl
def st2 := @stW _ _ ts2
theorem tv3 : tview Tryz.prog 3 = some (.int .i64) := by kernel_rfl
theorem ts3 : tsize Tryz.prog 3 = 1 := by kernel_rfl
def pt3 := @ptW _ _ _ tv3 rfl
def st3 := @stW _ _ ts3
theorem tv4 : tview Tryz.prog 4 = some (.bool) := by kernel_rfl
theorem ts4 : tsize Tryz.prog 4 = 1 := by kernel_rfl
def pt4 := @ptW _ _ _ tv4 rfl
def sb4 := @sbW _ _ ts4
theorem tv5 : tview Tryz.prog 5 = some (.int .u8) := by kernel_rfl
theorem ts5 : tsize Tryz.prog 5 = 1 := by kernel_rfl
def pt5 := @ptW _ _ _ tv5 rfl
def st5 := @stW _ _ ts5
theorem tv9 : tview Tryz.prog 9 = some (.str) := by kernel_rfl
theorem ts9 : tsize Tryz.prog 9 = 1 := by kernel_rfl
def pt9 := @ptW _ _ _ tv9 rfl
theorem le9 : ∀ {s : ByteArray}, abuiltin Tryz.prog .len #[9] [.v (.string s)] = some (.v (.int .i64 s.size)) := len_str tv9
theorem ix9 : ∀ {s : ByteArray} {i : Int}, aindex Tryz.prog 9 (.v (.string s)) i = aixS s i := ix_str tv9
theorem tv22 : tview Tryz.prog 22 = some (.slice 24 1 4) := by kernel_rfl
theorem ts22 : tsize Tryz.prog 22 = 1 := by kernel_rfl
def pt22 := @ptW _ _ _ tv22 rfl
def ia22 := @iaW _ _ _ _ _ tv22
def io22 := @ioW _ _ _ _ _ tv22
def le22 := @leW _ _ _ _ _ tv22
theorem tz24 : tzero Tryz.prog 24 = some [.v (.int .u32 0)] := by kernel_rfl
theorem mk22 : ∀ {a b : Int} {k k' : IntKind}, 0 ≤ a → a ≤ b → b ≤ 140737488355328 → b * 4 ≤ 140737488355328 → mkX Tryz.prog 22 (.v (.int k a)) (.v (.int k' b)) = some (.fresh 1 a.toNat (lm (ik .u32) (List.replicate a.toNat 0))) := mk_ik tv22 tz24
def ap22 := @apW _ _ _ _ _ _ tv22 tz24 rfl (by decide)
def bs22 := @bsW _ _ _ _ _ _ tv22 tz24 rfl (by decide)
def sa22 := @saW _ _ ts22
def so22 := @soW _ _ ts22
theorem tv24 : tview Tryz.prog 24 = some (.int .u32) := by kernel_rfl
theorem ts24 : tsize Tryz.prog 24 = 1 := by kernel_rfl
def pt24 := @ptW _ _ _ tv24 rfl
def st24 := @stW _ _ ts24
theorem tv27 : tview Tryz.prog 27 = some (.slice 3 1 8) := by kernel_rfl
theorem ts27 : tsize Tryz.prog 27 = 1 := by kernel_rfl
def pt27 := @ptW _ _ _ tv27 rfl
def ia27 := @iaW _ _ _ _ _ tv27
def io27 := @ioW _ _ _ _ _ tv27
def le27 := @leW _ _ _ _ _ tv27
theorem tz3 : tzero Tryz.prog 3 = some [.v (.int .i64 0)] := by kernel_rfl
theorem mk27 : ∀ {a b : Int} {k k' : IntKind}, 0 ≤ a → a ≤ b → b ≤ 140737488355328 → b * 8 ≤ 140737488355328 → mkX Tryz.prog 27 (.v (.int k a)) (.v (.int k' b)) = some (.fresh 1 a.toNat (lm (ik .i64) (List.replicate a.toNat 0))) := mk_ik tv27 tz3
def ap27 := @apW _ _ _ _ _ _ tv27 tz3 rfl (by decide)
def bs27 := @bsW _ _ _ _ _ _ tv27 tz3 rfl (by decide)
def ao27 := @aoW _ _ _ _ _ tv27
def as27 := @asW _ _ _ _ _ tv27
def sa27 := @saW _ _ ts27
def so27 := @soW _ _ ts27
theorem tv28 : tview Tryz.prog 28 = some (.slice 2 1 8) := by kernel_rfl
theorem ts28 : tsize Tryz.prog 28 = 1 := by kernel_rfl
def pt28 := @ptW _ _ _ tv28 rfl
def ia28 := @iaW _ _ _ _ _ tv28
def io28 := @ioW _ _ _ _ _ tv28
def le28 := @leW _ _ _ _ _ tv28
theorem tz2 : tzero Tryz.prog 2 = some [.v (.int .i64 0)] := by kernel_rfl
theorem mk28 : ∀ {a b : Int} {k k' : IntKind}, 0 ≤ a → a ≤ b → b ≤ 140737488355328 → b * 8 ≤ 140737488355328 → mkX Tryz.prog 28 (.v (.int k a)) (.v (.int k' b)) = some (.fresh 1 a.toNat (lm (ik .i64) (List.replicate a.toNat 0))) := mk_ik tv28 tz2
def ap28 := @apW _ _ _ _ _ _ tv28 tz2 rfl (by decide)
def bs28 := @bsW _ _ _ _ _ _ tv28 tz2 rfl (by decide)
def sa28 := @saW _ _ ts28
def so28 := @soW _ _ ts28
theorem tv29 : tview Tryz.prog 29 = some (.slice 4 1 1) := by kernel_rfl
theorem ts29 : tsize Tryz.prog 29 = 1 := by kernel_rfl
def pt29 := @ptW _ _ _ tv29 rfl
def ia29 := @iaW _ _ _ _ _ tv29
def io29 := @ioW _ _ _ _ _ tv29
def le29 := @leW _ _ _ _ _ tv29
theorem tz4 : tzero Tryz.prog 4 = some [.v (.bool false)] := by kernel_rfl
theorem mk29 : ∀ {a b : Int} {k k' : IntKind}, 0 ≤ a → a ≤ b → b ≤ 140737488355328 → b * 1 ≤ 140737488355328 → mkX Tryz.prog 29 (.v (.int k a)) (.v (.int k' b)) = some (.fresh 1 a.toNat (lm bk (List.replicate a.toNat false))) := mk_bk tv29 tz4
def ap29 := @apW _ _ _ _ _ _ tv29 tz4 rfl (by decide)
def bs29 := @bsW _ _ _ _ _ _ tv29 tz4 rfl (by decide)
def sa29 := @saW _ _ ts29
def so29 := @soW _ _ ts29
theorem tv31 : tview Tryz.prog 31 = some (.struct) := by kernel_rfl
theorem ts31 : tsize Tryz.prog 31 = 5 := by kernel_rfl
theorem pt31 : ∀ {xs : List AV} {off : Nat}, part Tryz.prog xs 31 off = if off + 5 ≤ xs.length then some (.agg ((xs.drop off).take 5)) else none := part_struct tv31 ts31
theorem sg31 : ∀ {h : Heap} {id : Id} {off : Nat} {ys : List AV}, ys.length = 5 → stX Tryz.prog 31 h (.ptr id off 0) (.agg ys) = (h.get id).bind (stH Tryz.prog 31 h id off ys) := stX_aggH ts31 (by decide)
theorem tv33 : tview Tryz.prog 33 = some (.struct) := by kernel_rfl
theorem ts33 : tsize Tryz.prog 33 = 36 := by kernel_rfl
theorem pt33 : ∀ {xs : List AV} {off : Nat}, part Tryz.prog xs 33 off = if off + 36 ≤ xs.length then some (.agg ((xs.drop off).take 36)) else none := part_struct tv33 ts33
theorem sg33 : ∀ {h : Heap} {id : Id} {off : Nat} {ys : List AV}, ys.length = 36 → stX Tryz.prog 33 h (.ptr id off 0) (.agg ys) = (h.get id).bind (stH Tryz.prog 33 h id off ys) := stX_aggH ts33 (by decide)
theorem tv34 : tview Tryz.prog 34 = some (.slice 31 5 104) := by kernel_rfl
theorem ts34 : tsize Tryz.prog 34 = 1 := by kernel_rfl
def pt34 := @ptW _ _ _ tv34 rfl
def ia34 := @iaW _ _ _ _ _ tv34
def io34 := @ioW _ _ _ _ _ tv34
def le34 := @leW _ _ _ _ _ tv34
theorem tz31 : tzero Tryz.prog 31 = some [.v (.int .i64 0), .v (.slice none 0 0), .v (.slice none 0 0), .v (.slice none 0 0), .v (.slice none 0 0)] := by kernel_rfl
def ap34 := @apW _ _ _ _ _ _ tv34 tz31 rfl (by decide)
theorem af34 : ∀ {lvl d m : Nat} {h : Heap} {id : Id} {n by_ : Nat} {l b : List T_Tensor}, m = b.length → n + m ≤ 140737488355328 → (n + m) * by_ ≤ 140737488355328 → appI lvl d 5 by_ h m (fm c_T_Tensor b) id n n (.sl true true 5 n (fm c_T_Tensor l)) = some (.own id 0 (n + m) (n + m), h.set id (.sl true true 5 (n + m) (fm c_T_Tensor (l ++ b)))) := fun h1 h2 h3 => appI_fm c_T_Tensor_len h1 h2 h3 (one_fm c_T_Tensor_one)
def bs34 := @bsW _ _ _ _ _ _ tv34 tz31 rfl (by decide)
def sa34 := @saW _ _ ts34
def so34 := @soW _ _ ts34
theorem tv35 : tview Tryz.prog 35 = some (.int .i64) := by kernel_rfl
theorem ts35 : tsize Tryz.prog 35 = 1 := by kernel_rfl
def pt35 := @ptW _ _ _ tv35 rfl
def st35 := @stW _ _ ts35
theorem tv51 : tview Tryz.prog 51 = some (.slice 56 8 144) := by kernel_rfl
theorem ts51 : tsize Tryz.prog 51 = 1 := by kernel_rfl
def pt51 := @ptW _ _ _ tv51 rfl
def ia51 := @iaW _ _ _ _ _ tv51
def io51 := @ioW _ _ _ _ _ tv51
def le51 := @leW _ _ _ _ _ tv51
theorem tz56 : tzero Tryz.prog 56 = some [.v (.int .i64 0), .v (.slice none 0 0), .v (.bool false), .v (.int .i64 0), .v (.slice none 0 0), .v (.slice none 0 0), .v (.slice none 0 0), .v (.slice none 0 0)] := by kernel_rfl
def ap51 := @apW _ _ _ _ _ _ tv51 tz56 rfl (by decide)
theorem af51 : ∀ {lvl d m : Nat} {h : Heap} {id : Id} {n by_ : Nat} {l b : List T_Val}, m = b.length → n + m ≤ 140737488355328 → (n + m) * by_ ≤ 140737488355328 → appI lvl d 8 by_ h m (fm c_T_Val b) id n n (.sl true true 8 n (fm c_T_Val l)) = some (.own id 0 (n + m) (n + m), h.set id (.sl true true 8 (n + m) (fm c_T_Val (l ++ b)))) := fun h1 h2 h3 => appI_fm c_T_Val_len h1 h2 h3 (one_fm c_T_Val_one)
def bs51 := @bsW _ _ _ _ _ _ tv51 tz56 rfl (by decide)
def sa51 := @saW _ _ ts51
def so51 := @soW _ _ ts51
theorem tv56 : tview Tryz.prog 56 = some (.struct) := by kernel_rfl
theorem ts56 : tsize Tryz.prog 56 = 8 := by kernel_rfl
theorem pt56 : ∀ {xs : List AV} {off : Nat}, part Tryz.prog xs 56 off = if off + 8 ≤ xs.length then some (.agg ((xs.drop off).take 8)) else none := part_struct tv56 ts56
theorem sg56 : ∀ {h : Heap} {id : Id} {off : Nat} {ys : List AV}, ys.length = 8 → stX Tryz.prog 56 h (.ptr id off 0) (.agg ys) = (h.get id).bind (stH Tryz.prog 56 h id off ys) := stX_aggH ts56 (by decide)
theorem tv65 : tview Tryz.prog 65 = some (.struct) := by kernel_rfl
theorem ts65 : tsize Tryz.prog 65 = 39 := by kernel_rfl
theorem pt65 : ∀ {xs : List AV} {off : Nat}, part Tryz.prog xs 65 off = if off + 39 ≤ xs.length then some (.agg ((xs.drop off).take 39)) else none := part_struct tv65 ts65
theorem sg65 : ∀ {h : Heap} {id : Id} {off : Nat} {ys : List AV}, ys.length = 39 → stX Tryz.prog 65 h (.ptr id off 0) (.agg ys) = (h.get id).bind (stH Tryz.prog 65 h id off ys) := stX_aggH ts65 (by decide)
theorem tv67 : tview Tryz.prog 67 = some (.slice 27 1 24) := by kernel_rfl
theorem ts67 : tsize Tryz.prog 67 = 1 := by kernel_rfl
def pt67 := @ptW _ _ _ tv67 rfl
def ia67 := @iaW _ _ _ _ _ tv67
def io67 := @ioW _ _ _ _ _ tv67
def le67 := @leW _ _ _ _ _ tv67
theorem tz27 : tzero Tryz.prog 27 = some [.v (.slice none 0 0)] := by kernel_rfl
def bs67 := @bsW _ _ _ _ _ _ tv67 tz27 rfl (by decide)
def sa67 := @saW _ _ ts67
def so67 := @soW _ _ ts67
theorem tv75 : tview Tryz.prog 75 = some (.struct) := by kernel_rfl
theorem ts75 : tsize Tryz.prog 75 = 6 := by kernel_rfl
theorem pt75 : ∀ {xs : List AV} {off : Nat}, part Tryz.prog xs 75 off = if off + 6 ≤ xs.length then some (.agg ((xs.drop off).take 6)) else none := part_struct tv75 ts75
theorem sg75 : ∀ {h : Heap} {id : Id} {off : Nat} {ys : List AV}, ys.length = 6 → stX Tryz.prog 75 h (.ptr id off 0) (.agg ys) = (h.get id).bind (stH Tryz.prog 75 h id off ys) := stX_aggH ts75 (by decide)
theorem tv87 : tview Tryz.prog 87 = some (.struct) := by kernel_rfl
theorem ts87 : tsize Tryz.prog 87 = 43 := by kernel_rfl
theorem pt87 : ∀ {xs : List AV} {off : Nat}, part Tryz.prog xs 87 off = if off + 43 ≤ xs.length then some (.agg ((xs.drop off).take 43)) else none := part_struct tv87 ts87
theorem tv89 : tview Tryz.prog 89 = some (.int .u64) := by kernel_rfl
theorem ts89 : tsize Tryz.prog 89 = 1 := by kernel_rfl
def pt89 := @ptW _ _ _ tv89 rfl
def st89 := @stW _ _ ts89
theorem tv91 : tview Tryz.prog 91 = some (.struct) := by kernel_rfl
theorem ts91 : tsize Tryz.prog 91 = 5 := by kernel_rfl
theorem pt91 : ∀ {xs : List AV} {off : Nat}, part Tryz.prog xs 91 off = if off + 5 ≤ xs.length then some (.agg ((xs.drop off).take 5)) else none := part_struct tv91 ts91
theorem sg91 : ∀ {h : Heap} {id : Id} {off : Nat} {ys : List AV}, ys.length = 5 → stX Tryz.prog 91 h (.ptr id off 0) (.agg ys) = (h.get id).bind (stH Tryz.prog 91 h id off ys) := stX_aggH ts91 (by decide)
theorem tv119 : tview Tryz.prog 119 = some (.slice 22 1 24) := by kernel_rfl
theorem ts119 : tsize Tryz.prog 119 = 1 := by kernel_rfl
def pt119 := @ptW _ _ _ tv119 rfl
def ia119 := @iaW _ _ _ _ _ tv119
def io119 := @ioW _ _ _ _ _ tv119
def le119 := @leW _ _ _ _ _ tv119
theorem tz22 : tzero Tryz.prog 22 = some [.v (.slice none 0 0)] := by kernel_rfl
def ap119 := @apW _ _ _ _ _ _ tv119 tz22 rfl (by decide)
def bs119 := @bsW _ _ _ _ _ _ tv119 tz22 rfl (by decide)
def sa119 := @saW _ _ ts119
def so119 := @soW _ _ ts119
theorem tv155 : tview Tryz.prog 155 = some (.struct) := by kernel_rfl
theorem ts155 : tsize Tryz.prog 155 = 4 := by kernel_rfl
theorem pt155 : ∀ {xs : List AV} {off : Nat}, part Tryz.prog xs 155 off = if off + 4 ≤ xs.length then some (.agg ((xs.drop off).take 4)) else none := part_struct tv155 ts155
theorem fo31_0 : fieldOf Tryz.prog 31 0 = some (0, 3) := by kernel_rfl
def fp31_0 := @fpW _ _ _ _ _ _ fo31_0 ts3 (by decide)
def fr31_0 := @frW _ _ _ _ _ _ fo31_0 ts3 (by decide)
theorem fo31_1 : fieldOf Tryz.prog 31 1 = some (1, 27) := by kernel_rfl
def fp31_1 := @fpW _ _ _ _ _ _ fo31_1 ts27 (by decide)
def fr31_1 := @frW _ _ _ _ _ _ fo31_1 ts27 (by decide)
theorem fo31_2 : fieldOf Tryz.prog 31 2 = some (2, 22) := by kernel_rfl
def fp31_2 := @fpW _ _ _ _ _ _ fo31_2 ts22 (by decide)
def fr31_2 := @frW _ _ _ _ _ _ fo31_2 ts22 (by decide)
theorem fo31_3 : fieldOf Tryz.prog 31 3 = some (3, 28) := by kernel_rfl
def fp31_3 := @fpW _ _ _ _ _ _ fo31_3 ts28 (by decide)
def fr31_3 := @frW _ _ _ _ _ _ fo31_3 ts28 (by decide)
theorem fo31_4 : fieldOf Tryz.prog 31 4 = some (4, 29) := by kernel_rfl
def fp31_4 := @fpW _ _ _ _ _ _ fo31_4 ts29 (by decide)
def fr31_4 := @frW _ _ _ _ _ _ fo31_4 ts29 (by decide)
theorem fo33_0 : fieldOf Tryz.prog 33 0 = some (0, 3) := by kernel_rfl
def fp33_0 := @fpW _ _ _ _ _ _ fo33_0 ts3 (by decide)
def fr33_0 := @frW _ _ _ _ _ _ fo33_0 ts3 (by decide)
theorem fo33_7 : fieldOf Tryz.prog 33 7 = some (7, 27) := by kernel_rfl
def fp33_7 := @fpW _ _ _ _ _ _ fo33_7 ts27 (by decide)
def fr33_7 := @frW _ _ _ _ _ _ fo33_7 ts27 (by decide)
theorem fo33_8 : fieldOf Tryz.prog 33 8 = some (8, 4) := by kernel_rfl
def fp33_8 := @fpW _ _ _ _ _ _ fo33_8 ts4 (by decide)
def fr33_8 := @frW _ _ _ _ _ _ fo33_8 ts4 (by decide)
theorem fo33_9 : fieldOf Tryz.prog 33 9 = some (9, 24) := by kernel_rfl
def fp33_9 := @fpW _ _ _ _ _ _ fo33_9 ts24 (by decide)
def fr33_9 := @frW _ _ _ _ _ _ fo33_9 ts24 (by decide)
theorem fo33_10 : fieldOf Tryz.prog 33 10 = some (10, 24) := by kernel_rfl
def fp33_10 := @fpW _ _ _ _ _ _ fo33_10 ts24 (by decide)
def fr33_10 := @frW _ _ _ _ _ _ fo33_10 ts24 (by decide)
theorem fo33_17 : fieldOf Tryz.prog 33 17 = some (17, 4) := by kernel_rfl
def fp33_17 := @fpW _ _ _ _ _ _ fo33_17 ts4 (by decide)
def fr33_17 := @frW _ _ _ _ _ _ fo33_17 ts4 (by decide)
theorem fo33_18 : fieldOf Tryz.prog 33 18 = some (18, 4) := by kernel_rfl
def fp33_18 := @fpW _ _ _ _ _ _ fo33_18 ts4 (by decide)
def fr33_18 := @frW _ _ _ _ _ _ fo33_18 ts4 (by decide)
theorem fo56_0 : fieldOf Tryz.prog 56 0 = some (0, 3) := by kernel_rfl
def fp56_0 := @fpW _ _ _ _ _ _ fo56_0 ts3 (by decide)
def fr56_0 := @frW _ _ _ _ _ _ fo56_0 ts3 (by decide)
theorem fd56_0 : ∀ {xs : List AV}, fdX Tryz.prog 56 0 (.agg xs) = part Tryz.prog xs 3 0 := fdX_at fo56_0
theorem fo56_1 : fieldOf Tryz.prog 56 1 = some (1, 27) := by kernel_rfl
def fp56_1 := @fpW _ _ _ _ _ _ fo56_1 ts27 (by decide)
def fr56_1 := @frW _ _ _ _ _ _ fo56_1 ts27 (by decide)
theorem fd56_1 : ∀ {xs : List AV}, fdX Tryz.prog 56 1 (.agg xs) = part Tryz.prog xs 27 1 := fdX_at fo56_1
theorem fo56_2 : fieldOf Tryz.prog 56 2 = some (2, 4) := by kernel_rfl
def fp56_2 := @fpW _ _ _ _ _ _ fo56_2 ts4 (by decide)
def fr56_2 := @frW _ _ _ _ _ _ fo56_2 ts4 (by decide)
theorem fo56_3 : fieldOf Tryz.prog 56 3 = some (3, 31) := by kernel_rfl
def fp56_3 := @fpW _ _ _ _ _ _ fo56_3 ts31 (by decide)
def fr56_3 := @frW _ _ _ _ _ _ fo56_3 ts31 (by decide)
theorem fo65_0 : fieldOf Tryz.prog 65 0 = some (0, 3) := by kernel_rfl
def fp65_0 := @fpW _ _ _ _ _ _ fo65_0 ts3 (by decide)
def fr65_0 := @frW _ _ _ _ _ _ fo65_0 ts3 (by decide)
theorem fo65_1 : fieldOf Tryz.prog 65 1 = some (1, 33) := by kernel_rfl
def fp65_1 := @fpW _ _ _ _ _ _ fo65_1 ts33 (by decide)
def fr65_1 := @frW _ _ _ _ _ _ fo65_1 ts33 (by decide)
theorem fo65_2 : fieldOf Tryz.prog 65 2 = some (37, 51) := by kernel_rfl
def fp65_2 := @fpW _ _ _ _ _ _ fo65_2 ts51 (by decide)
def fr65_2 := @frW _ _ _ _ _ _ fo65_2 ts51 (by decide)
theorem fo65_3 : fieldOf Tryz.prog 65 3 = some (38, 3) := by kernel_rfl
def fp65_3 := @fpW _ _ _ _ _ _ fo65_3 ts3 (by decide)
def fr65_3 := @frW _ _ _ _ _ _ fo65_3 ts3 (by decide)
theorem fo75_0 : fieldOf Tryz.prog 75 0 = some (0, 22) := by kernel_rfl
def fp75_0 := @fpW _ _ _ _ _ _ fo75_0 ts22 (by decide)
def fr75_0 := @frW _ _ _ _ _ _ fo75_0 ts22 (by decide)
theorem fo75_1 : fieldOf Tryz.prog 75 1 = some (1, 3) := by kernel_rfl
def fp75_1 := @fpW _ _ _ _ _ _ fo75_1 ts3 (by decide)
def fr75_1 := @frW _ _ _ _ _ _ fo75_1 ts3 (by decide)
theorem fo75_2 : fieldOf Tryz.prog 75 2 = some (2, 3) := by kernel_rfl
def fp75_2 := @fpW _ _ _ _ _ _ fo75_2 ts3 (by decide)
def fr75_2 := @frW _ _ _ _ _ _ fo75_2 ts3 (by decide)
theorem fo75_3 : fieldOf Tryz.prog 75 3 = some (3, 3) := by kernel_rfl
def fp75_3 := @fpW _ _ _ _ _ _ fo75_3 ts3 (by decide)
def fr75_3 := @frW _ _ _ _ _ _ fo75_3 ts3 (by decide)
theorem fo75_4 : fieldOf Tryz.prog 75 4 = some (4, 3) := by kernel_rfl
def fp75_4 := @fpW _ _ _ _ _ _ fo75_4 ts3 (by decide)
def fr75_4 := @frW _ _ _ _ _ _ fo75_4 ts3 (by decide)
theorem fo75_5 : fieldOf Tryz.prog 75 5 = some (5, 3) := by kernel_rfl
def fp75_5 := @fpW _ _ _ _ _ _ fo75_5 ts3 (by decide)
def fr75_5 := @frW _ _ _ _ _ _ fo75_5 ts3 (by decide)
theorem fo87_0 : fieldOf Tryz.prog 87 0 = some (0, 3) := by kernel_rfl
def fp87_0 := @fpW _ _ _ _ _ _ fo87_0 ts3 (by decide)
def fr87_0 := @frW _ _ _ _ _ _ fo87_0 ts3 (by decide)
theorem fo87_1 : fieldOf Tryz.prog 87 1 = some (1, 33) := by kernel_rfl
def fp87_1 := @fpW _ _ _ _ _ _ fo87_1 ts33 (by decide)
def fr87_1 := @frW _ _ _ _ _ _ fo87_1 ts33 (by decide)
theorem fo87_2 : fieldOf Tryz.prog 87 2 = some (37, 34) := by kernel_rfl
def fp87_2 := @fpW _ _ _ _ _ _ fo87_2 ts34 (by decide)
def fr87_2 := @frW _ _ _ _ _ _ fo87_2 ts34 (by decide)
theorem fo87_3 : fieldOf Tryz.prog 87 3 = some (38, 51) := by kernel_rfl
def fp87_3 := @fpW _ _ _ _ _ _ fo87_3 ts51 (by decide)
def fr87_3 := @frW _ _ _ _ _ _ fo87_3 ts51 (by decide)
theorem fo87_4 : fieldOf Tryz.prog 87 4 = some (39, 27) := by kernel_rfl
def fp87_4 := @fpW _ _ _ _ _ _ fo87_4 ts27 (by decide)
def fr87_4 := @frW _ _ _ _ _ _ fo87_4 ts27 (by decide)
theorem fo87_5 : fieldOf Tryz.prog 87 5 = some (40, 3) := by kernel_rfl
def fp87_5 := @fpW _ _ _ _ _ _ fo87_5 ts3 (by decide)
def fr87_5 := @frW _ _ _ _ _ _ fo87_5 ts3 (by decide)
theorem fo87_6 : fieldOf Tryz.prog 87 6 = some (41, 27) := by kernel_rfl
def fp87_6 := @fpW _ _ _ _ _ _ fo87_6 ts27 (by decide)
def fr87_6 := @frW _ _ _ _ _ _ fo87_6 ts27 (by decide)
theorem fo91_0 : fieldOf Tryz.prog 91 0 = some (0, 4) := by kernel_rfl
def fp91_0 := @fpW _ _ _ _ _ _ fo91_0 ts4 (by decide)
def fr91_0 := @frW _ _ _ _ _ _ fo91_0 ts4 (by decide)
theorem fo91_1 : fieldOf Tryz.prog 91 1 = some (1, 4) := by kernel_rfl
def fp91_1 := @fpW _ _ _ _ _ _ fo91_1 ts4 (by decide)
def fr91_1 := @frW _ _ _ _ _ _ fo91_1 ts4 (by decide)
theorem fo91_2 : fieldOf Tryz.prog 91 2 = some (2, 4) := by kernel_rfl
def fp91_2 := @fpW _ _ _ _ _ _ fo91_2 ts4 (by decide)
def fr91_2 := @frW _ _ _ _ _ _ fo91_2 ts4 (by decide)
theorem fo91_3 : fieldOf Tryz.prog 91 3 = some (3, 3) := by kernel_rfl
def fp91_3 := @fpW _ _ _ _ _ _ fo91_3 ts3 (by decide)
def fr91_3 := @frW _ _ _ _ _ _ fo91_3 ts3 (by decide)
theorem fo91_4 : fieldOf Tryz.prog 91 4 = some (4, 89) := by kernel_rfl
def fp91_4 := @fpW _ _ _ _ _ _ fo91_4 ts89 (by decide)
def fr91_4 := @frW _ _ _ _ _ _ fo91_4 ts89 (by decide)
theorem fo155_0 : fieldOf Tryz.prog 155 0 = some (0, 22) := by kernel_rfl
def fp155_0 := @fpW _ _ _ _ _ _ fo155_0 ts22 (by decide)
def fr155_0 := @frW _ _ _ _ _ _ fo155_0 ts22 (by decide)
theorem fo155_1 : fieldOf Tryz.prog 155 1 = some (1, 3) := by kernel_rfl
def fp155_1 := @fpW _ _ _ _ _ _ fo155_1 ts3 (by decide)
def fr155_1 := @frW _ _ _ _ _ _ fo155_1 ts3 (by decide)
theorem fo155_2 : fieldOf Tryz.prog 155 2 = some (2, 3) := by kernel_rfl
def fp155_2 := @fpW _ _ _ _ _ _ fo155_2 ts3 (by decide)
def fr155_2 := @frW _ _ _ _ _ _ fo155_2 ts3 (by decide)
theorem fo155_3 : fieldOf Tryz.prog 155 3 = some (3, 3) := by kernel_rfl
def fp155_3 := @fpW _ _ _ _ _ _ fo155_3 ts3 (by decide)
def fr155_3 := @frW _ _ _ _ _ _ fo155_3 ts3 (by decide)
def bl31 := @blW _ _ _ tz31 tv31
theorem fl31_0 : flP Tryz.prog 31 0 = some (0, 1) := @flW _ _ _ _ _ _ fo31_0 ts3
theorem fl31_1 : flP Tryz.prog 31 1 = some (1, 1) := @flW _ _ _ _ _ _ fo31_1 ts27
theorem fl31_2 : flP Tryz.prog 31 2 = some (2, 1) := @flW _ _ _ _ _ _ fo31_2 ts22
theorem fl31_3 : flP Tryz.prog 31 3 = some (3, 1) := @flW _ _ _ _ _ _ fo31_3 ts28
theorem fl31_4 : flP Tryz.prog 31 4 = some (4, 1) := @flW _ _ _ _ _ _ fo31_4 ts29
theorem tz33 : tzero Tryz.prog 33 = some [.v (.int .i64 0), .v (.slice none 0 0), .v (.bool false), .v (.bool false), .v (.bool false), .v (.bool false), .v (.bool false), .v (.slice none 0 0), .v (.bool false), .v (.int .u32 0), .v (.int .u32 0), .v (.int .u32 0), .v (.bool false), .v (.bool false), .v (.bool false), .v (.int .i64 0), .v (.int .i64 0), .v (.bool false), .v (.bool false), .v (.int .i64 0), .v (.slice none 0 0), .v (.slice none 0 0), .v (.slice none 0 0), .v (.slice none 0 0), .v (.int .i64 0), .v (.bool false), .v (.bool false), .v (.int .i64 0), .v (.int .i64 0), .v (.int .i64 0), .v (.bool false), .v (.int .i64 0), .v (.slice none 0 0), .v (.slice none 0 0), .v (.slice none 0 0), .v (.slice none 0 0)] := by kernel_rfl
def bl33 := @blW _ _ _ tz33 tv33
theorem fl33_0 : flP Tryz.prog 33 0 = some (0, 1) := @flW _ _ _ _ _ _ fo33_0 ts3
theorem fl33_7 : flP Tryz.prog 33 7 = some (7, 1) := @flW _ _ _ _ _ _ fo33_7 ts27
theorem fl33_8 : flP Tryz.prog 33 8 = some (8, 1) := @flW _ _ _ _ _ _ fo33_8 ts4
theorem fl33_9 : flP Tryz.prog 33 9 = some (9, 1) := @flW _ _ _ _ _ _ fo33_9 ts24
theorem fl33_10 : flP Tryz.prog 33 10 = some (10, 1) := @flW _ _ _ _ _ _ fo33_10 ts24
theorem fl33_17 : flP Tryz.prog 33 17 = some (17, 1) := @flW _ _ _ _ _ _ fo33_17 ts4
theorem fl33_18 : flP Tryz.prog 33 18 = some (18, 1) := @flW _ _ _ _ _ _ fo33_18 ts4
def bl56 := @blW _ _ _ tz56 tv56
theorem fl56_0 : flP Tryz.prog 56 0 = some (0, 1) := @flW _ _ _ _ _ _ fo56_0 ts3
theorem fl56_1 : flP Tryz.prog 56 1 = some (1, 1) := @flW _ _ _ _ _ _ fo56_1 ts27
theorem fl56_2 : flP Tryz.prog 56 2 = some (2, 1) := @flW _ _ _ _ _ _ fo56_2 ts4
theorem fl56_3 : flP Tryz.prog 56 3 = some (3, 5) := @flW _ _ _ _ _ _ fo56_3 ts31
theorem tz65 : tzero Tryz.prog 65 = some [.v (.int .i64 0), .v (.int .i64 0), .v (.slice none 0 0), .v (.bool false), .v (.bool false), .v (.bool false), .v (.bool false), .v (.bool false), .v (.slice none 0 0), .v (.bool false), .v (.int .u32 0), .v (.int .u32 0), .v (.int .u32 0), .v (.bool false), .v (.bool false), .v (.bool false), .v (.int .i64 0), .v (.int .i64 0), .v (.bool false), .v (.bool false), .v (.int .i64 0), .v (.slice none 0 0), .v (.slice none 0 0), .v (.slice none 0 0), .v (.slice none 0 0), .v (.int .i64 0), .v (.bool false), .v (.bool false), .v (.int .i64 0), .v (.int .i64 0), .v (.int .i64 0), .v (.bool false), .v (.int .i64 0), .v (.slice none 0 0), .v (.slice none 0 0), .v (.slice none 0 0), .v (.slice none 0 0), .v (.slice none 0 0), .v (.int .i64 0)] := by kernel_rfl
def bl65 := @blW _ _ _ tz65 tv65
theorem fl65_0 : flP Tryz.prog 65 0 = some (0, 1) := @flW _ _ _ _ _ _ fo65_0 ts3
theorem fl65_1 : flP Tryz.prog 65 1 = some (1, 36) := @flW _ _ _ _ _ _ fo65_1 ts33
theorem fl65_2 : flP Tryz.prog 65 2 = some (37, 1) := @flW _ _ _ _ _ _ fo65_2 ts51
theorem fl65_3 : flP Tryz.prog 65 3 = some (38, 1) := @flW _ _ _ _ _ _ fo65_3 ts3
theorem tz75 : tzero Tryz.prog 75 = some [.v (.slice none 0 0), .v (.int .i64 0), .v (.int .i64 0), .v (.int .i64 0), .v (.int .i64 0), .v (.int .i64 0)] := by kernel_rfl
def bl75 := @blW _ _ _ tz75 tv75
theorem fl75_0 : flP Tryz.prog 75 0 = some (0, 1) := @flW _ _ _ _ _ _ fo75_0 ts22
theorem fl75_1 : flP Tryz.prog 75 1 = some (1, 1) := @flW _ _ _ _ _ _ fo75_1 ts3
theorem fl75_2 : flP Tryz.prog 75 2 = some (2, 1) := @flW _ _ _ _ _ _ fo75_2 ts3
theorem fl75_3 : flP Tryz.prog 75 3 = some (3, 1) := @flW _ _ _ _ _ _ fo75_3 ts3
theorem fl75_4 : flP Tryz.prog 75 4 = some (4, 1) := @flW _ _ _ _ _ _ fo75_4 ts3
theorem fl75_5 : flP Tryz.prog 75 5 = some (5, 1) := @flW _ _ _ _ _ _ fo75_5 ts3
theorem tz87 : tzero Tryz.prog 87 = some [.v (.int .i64 0), .v (.int .i64 0), .v (.slice none 0 0), .v (.bool false), .v (.bool false), .v (.bool false), .v (.bool false), .v (.bool false), .v (.slice none 0 0), .v (.bool false), .v (.int .u32 0), .v (.int .u32 0), .v (.int .u32 0), .v (.bool false), .v (.bool false), .v (.bool false), .v (.int .i64 0), .v (.int .i64 0), .v (.bool false), .v (.bool false), .v (.int .i64 0), .v (.slice none 0 0), .v (.slice none 0 0), .v (.slice none 0 0), .v (.slice none 0 0), .v (.int .i64 0), .v (.bool false), .v (.bool false), .v (.int .i64 0), .v (.int .i64 0), .v (.int .i64 0), .v (.bool false), .v (.int .i64 0), .v (.slice none 0 0), .v (.slice none 0 0), .v (.slice none 0 0), .v (.slice none 0 0), .v (.slice none 0 0), .v (.slice none 0 0), .v (.slice none 0 0), .v (.int .i64 0), .v (.slice none 0 0), .v (.int .i64 0)] := by kernel_rfl
def bl87 := @blW _ _ _ tz87 tv87
theorem fl87_0 : flP Tryz.prog 87 0 = some (0, 1) := @flW _ _ _ _ _ _ fo87_0 ts3
theorem fl87_1 : flP Tryz.prog 87 1 = some (1, 36) := @flW _ _ _ _ _ _ fo87_1 ts33
theorem fl87_2 : flP Tryz.prog 87 2 = some (37, 1) := @flW _ _ _ _ _ _ fo87_2 ts34
theorem fl87_3 : flP Tryz.prog 87 3 = some (38, 1) := @flW _ _ _ _ _ _ fo87_3 ts51
theorem fl87_4 : flP Tryz.prog 87 4 = some (39, 1) := @flW _ _ _ _ _ _ fo87_4 ts27
theorem fl87_5 : flP Tryz.prog 87 5 = some (40, 1) := @flW _ _ _ _ _ _ fo87_5 ts3
theorem fl87_6 : flP Tryz.prog 87 6 = some (41, 1) := @flW _ _ _ _ _ _ fo87_6 ts27
theorem tz91 : tzero Tryz.prog 91 = some [.v (.bool false), .v (.bool false), .v (.bool false), .v (.int .i64 0), .v (.int .u64 0)] := by kernel_rfl
def bl91 := @blW _ _ _ tz91 tv91
theorem fl91_0 : flP Tryz.prog 91 0 = some (0, 1) := @flW _ _ _ _ _ _ fo91_0 ts4
theorem fl91_1 : flP Tryz.prog 91 1 = some (1, 1) := @flW _ _ _ _ _ _ fo91_1 ts4
theorem fl91_2 : flP Tryz.prog 91 2 = some (2, 1) := @flW _ _ _ _ _ _ fo91_2 ts4
theorem fl91_3 : flP Tryz.prog 91 3 = some (3, 1) := @flW _ _ _ _ _ _ fo91_3 ts3
theorem fl91_4 : flP Tryz.prog 91 4 = some (4, 1) := @flW _ _ _ _ _ _ fo91_4 ts89
theorem tz155 : tzero Tryz.prog 155 = some [.v (.slice none 0 0), .v (.int .i64 0), .v (.int .i64 0), .v (.int .i64 0)] := by kernel_rfl
def bl155 := @blW _ _ _ tz155 tv155
theorem fl155_0 : flP Tryz.prog 155 0 = some (0, 1) := @flW _ _ _ _ _ _ fo155_0 ts22
theorem fl155_1 : flP Tryz.prog 155 1 = some (1, 1) := @flW _ _ _ _ _ _ fo155_1 ts3
theorem fl155_2 : flP Tryz.prog 155 2 = some (2, 1) := @flW _ _ _ _ _ _ fo155_2 ts3
theorem fl155_3 : flP Tryz.prog 155 3 = some (3, 1) := @flW _ _ _ _ _ _ fo155_3 ts3
def al22 := @alW _ _ _ tz22
def aq22 := @aqW _ _ _ tz22
def al31 := @alW _ _ _ tz31
def aq31 := @aqW _ _ _ tz31
def al33 := @alW _ _ _ tz33
def aq33 := @aqW _ _ _ tz33
def al56 := @alW _ _ _ tz56
def aq56 := @aqW _ _ _ tz56
def al65 := @alW _ _ _ tz65
def aq65 := @aqW _ _ _ tz65
def al75 := @alW _ _ _ tz75
def aq75 := @aqW _ _ _ tz75
def al91 := @alW _ _ _ tz91
def aq91 := @aqW _ _ _ tz91
theorem ab4 : ∀ {op : BinOp} {a b : Bool}, abin Tryz.prog op 4 (.v (.bool a)) (.v (.bool b)) = abinB op a b := abin_bool tv4
theorem cv3_89 : ∀ {k' : IntKind} {z : Int}, cvX Tryz.prog 3 89 (.v (.int k' z)) = some (.v (.int .u64 (wk .u64 z))) := cvX_at tv3 tv89
theorem cv5_3 : ∀ {k' : IntKind} {z : Int}, cvX Tryz.prog 5 3 (.v (.int k' z)) = some (.v (.int .i64 (wk .i64 z))) := cvX_at tv5 tv3
theorem cv24_3 : ∀ {k' : IntKind} {z : Int}, cvX Tryz.prog 24 3 (.v (.int k' z)) = some (.v (.int .i64 (wk .i64 z))) := cvX_at tv24 tv3
theorem cv24_89 : ∀ {k' : IntKind} {z : Int}, cvX Tryz.prog 24 89 (.v (.int k' z)) = some (.v (.int .u64 (wk .u64 z))) := cvX_at tv24 tv89
theorem cv89_5 : ∀ {k' : IntKind} {z : Int}, cvX Tryz.prog 89 5 (.v (.int k' z)) = some (.v (.int .u8 (wk .u8 z))) := cvX_at tv89 tv5
theorem cv89_24 : ∀ {k' : IntKind} {z : Int}, cvX Tryz.prog 89 24 (.v (.int k' z)) = some (.v (.int .u32 (wk .u32 z))) := cvX_at tv89 tv24
theorem sc22 : sliceCells Tryz.prog 4 22 = [2] := by kernel_rfl
theorem ty22 : typed Tryz.prog 22 (.v (.slice none 0 0)) = .fresh 1 0 [] := ty_nil sc22
theorem sc27 : sliceCells Tryz.prog 4 27 = [2] := by kernel_rfl
theorem ty27 : typed Tryz.prog 27 (.v (.slice none 0 0)) = .fresh 1 0 [] := ty_nil sc27
theorem sc28 : sliceCells Tryz.prog 4 28 = [2] := by kernel_rfl
theorem ty28 : typed Tryz.prog 28 (.v (.slice none 0 0)) = .fresh 1 0 [] := ty_nil sc28
theorem sc29 : sliceCells Tryz.prog 4 29 = [2] := by kernel_rfl
theorem ty29 : typed Tryz.prog 29 (.v (.slice none 0 0)) = .fresh 1 0 [] := ty_nil sc29
theorem sc31 : sliceCells Tryz.prog 4 31 = [0, 2, 2, 2, 2] := by kernel_rfl
theorem ty31 : ∀ {xs : List AV}, typed Tryz.prog 31 (.agg xs) = .agg (nilNew xs [0, 2, 2, 2, 2]) := ty_agg sc31
theorem sc34 : sliceCells Tryz.prog 4 34 = [6] := by kernel_rfl
theorem ty34 : typed Tryz.prog 34 (.v (.slice none 0 0)) = .fresh 5 0 [] := ty_nil sc34
theorem sc51 : sliceCells Tryz.prog 4 51 = [9] := by kernel_rfl
theorem ty51 : typed Tryz.prog 51 (.v (.slice none 0 0)) = .fresh 8 0 [] := ty_nil sc51
theorem sc56 : sliceCells Tryz.prog 4 56 = [0, 2, 0, 0, 2, 2, 2, 2] := by kernel_rfl
theorem ty56 : ∀ {xs : List AV}, typed Tryz.prog 56 (.agg xs) = .agg (nilNew xs [0, 2, 0, 0, 2, 2, 2, 2]) := ty_agg sc56
theorem sc67 : sliceCells Tryz.prog 4 67 = [2] := by kernel_rfl
theorem ty67 : typed Tryz.prog 67 (.v (.slice none 0 0)) = .fresh 1 0 [] := ty_nil sc67
theorem sc75 : sliceCells Tryz.prog 4 75 = [2, 0, 0, 0, 0, 0] := by kernel_rfl
theorem ty75 : ∀ {xs : List AV}, typed Tryz.prog 75 (.agg xs) = .agg (nilNew xs [2, 0, 0, 0, 0, 0]) := ty_agg sc75
theorem sc91 : sliceCells Tryz.prog 4 91 = [0, 0, 0, 0, 0] := by kernel_rfl
theorem ty91 : ∀ {xs : List AV}, typed Tryz.prog 91 (.agg xs) = .agg (nilNew xs [0, 0, 0, 0, 0]) := ty_agg sc91
theorem c_T_Tensor_at {x : T_Tensor} : c_T_Tensor x = [.v (.int .i64 x.fType), .arr x.fDims.length (lm (ik .i64) x.fDims), .arr x.fF.length (lm (ik .u32) x.fF), .arr x.fI.length (lm (ik .i64) x.fI), .arr x.fB.length (lm (bk) x.fB)] := rfl
theorem c_T_Setting_at {x : T_Setting} : c_T_Setting x = [.v (.int .i64 x.fAxis), .arr x.fAxes.length (lm (ik .i64) x.fAxes), .v (.bool x.fHasAxes), .v (.bool x.fKeep), .v (.bool x.fNoop), .v (.bool x.fLast), .v (.bool x.fZero), .arr x.fPerm.length (lm (ik .i64) x.fPerm), .v (.bool x.fHasPerm), .v (.int .u32 x.fAlpha), .v (.int .u32 x.fBeta), .v (.int .u32 x.fEpsilon), .v (.bool x.fLow), .v (.bool x.fHigh), .v (.bool x.fFmod), .v (.int .i64 x.fTo), .v (.int .i64 x.fMode), .v (.bool x.fTransA), .v (.bool x.fTransB), .v (.int .i64 x.fGroup), .arr x.fKernel.length (lm (ik .i64) x.fKernel), .arr x.fStrides.length (lm (ik .i64) x.fStrides), .arr x.fPads.length (lm (ik .i64) x.fPads), .arr x.fDilations.length (lm (ik .i64) x.fDilations), .v (.int .i64 x.fAuto), .v (.bool x.fCeil), .v (.bool x.fCount), .v (.int .i64 x.fBlock), .v (.int .i64 x.fStart), .v (.int .i64 x.fEnd), .v (.bool x.fHasEnd), .v (.int .i64 x.fValue.fType), .arr x.fValue.fDims.length (lm (ik .i64) x.fValue.fDims), .arr x.fValue.fF.length (lm (ik .u32) x.fValue.fF), .arr x.fValue.fI.length (lm (ik .i64) x.fValue.fI), .arr x.fValue.fB.length (lm (bk) x.fValue.fB)] := rfl
theorem c_T_Val_at {x : T_Val} : c_T_Val x = [.v (.int .i64 x.fType), .arr x.fDims.length (lm (ik .i64) x.fDims), .v (.bool x.fConst), .v (.int .i64 x.fT.fType), .arr x.fT.fDims.length (lm (ik .i64) x.fT.fDims), .arr x.fT.fF.length (lm (ik .u32) x.fT.fF), .arr x.fT.fI.length (lm (ik .i64) x.fT.fI), .arr x.fT.fB.length (lm (bk) x.fT.fB)] := rfl
theorem c_T_infer_ask_at {x : T_infer_ask} : c_T_infer_ask x = [.v (.int .i64 x.fop), .v (.int .i64 x.fs.fAxis), .arr x.fs.fAxes.length (lm (ik .i64) x.fs.fAxes), .v (.bool x.fs.fHasAxes), .v (.bool x.fs.fKeep), .v (.bool x.fs.fNoop), .v (.bool x.fs.fLast), .v (.bool x.fs.fZero), .arr x.fs.fPerm.length (lm (ik .i64) x.fs.fPerm), .v (.bool x.fs.fHasPerm), .v (.int .u32 x.fs.fAlpha), .v (.int .u32 x.fs.fBeta), .v (.int .u32 x.fs.fEpsilon), .v (.bool x.fs.fLow), .v (.bool x.fs.fHigh), .v (.bool x.fs.fFmod), .v (.int .i64 x.fs.fTo), .v (.int .i64 x.fs.fMode), .v (.bool x.fs.fTransA), .v (.bool x.fs.fTransB), .v (.int .i64 x.fs.fGroup), .arr x.fs.fKernel.length (lm (ik .i64) x.fs.fKernel), .arr x.fs.fStrides.length (lm (ik .i64) x.fs.fStrides), .arr x.fs.fPads.length (lm (ik .i64) x.fs.fPads), .arr x.fs.fDilations.length (lm (ik .i64) x.fs.fDilations), .v (.int .i64 x.fs.fAuto), .v (.bool x.fs.fCeil), .v (.bool x.fs.fCount), .v (.int .i64 x.fs.fBlock), .v (.int .i64 x.fs.fStart), .v (.int .i64 x.fs.fEnd), .v (.bool x.fs.fHasEnd), .v (.int .i64 x.fs.fValue.fType), .arr x.fs.fValue.fDims.length (lm (ik .i64) x.fs.fValue.fDims), .arr x.fs.fValue.fF.length (lm (ik .u32) x.fs.fValue.fF), .arr x.fs.fValue.fI.length (lm (ik .i64) x.fs.fValue.fI), .arr x.fs.fValue.fB.length (lm (bk) x.fs.fValue.fB), .arr x.fin.length (fm c_T_Val x.fin), .v (.int .i64 x.fouts)] := rfl
theorem c_T_mat_grid_at {x : T_mat_grid} : c_T_mat_grid x = [.arr x.fl.length (lm (ik .u32) x.fl), .v (.int .i64 x.fat), .v (.int .i64 x.frow), .v (.int .i64 x.fcol), .v (.int .i64 x.frows), .v (.int .i64 x.fcolumns)] := rfl
theorem c_T_mat_line_uint32_at {x : T_mat_line_uint32} : c_T_mat_line_uint32 x = [.arr x.fl.length (lm (ik .u32) x.fl), .v (.int .i64 x.ffirst), .v (.int .i64 x.fstride), .v (.int .i64 x.fn)] := rfl
theorem c_T_soft_number_at {x : T_soft_number} : c_T_soft_number x = [.v (.bool x.fneg), .v (.bool x.fnan), .v (.bool x.finf), .v (.int .i64 x.fexp), .v (.int .u64 x.fsig)] := rfl
theorem c_T_ref12_job_at {x : T_ref12_job} : c_T_ref12_job x = [.v (.int .i64 x.fop), .v (.int .i64 x.fs.fAxis), .arr x.fs.fAxes.length (lm (ik .i64) x.fs.fAxes), .v (.bool x.fs.fHasAxes), .v (.bool x.fs.fKeep), .v (.bool x.fs.fNoop), .v (.bool x.fs.fLast), .v (.bool x.fs.fZero), .arr x.fs.fPerm.length (lm (ik .i64) x.fs.fPerm), .v (.bool x.fs.fHasPerm), .v (.int .u32 x.fs.fAlpha), .v (.int .u32 x.fs.fBeta), .v (.int .u32 x.fs.fEpsilon), .v (.bool x.fs.fLow), .v (.bool x.fs.fHigh), .v (.bool x.fs.fFmod), .v (.int .i64 x.fs.fTo), .v (.int .i64 x.fs.fMode), .v (.bool x.fs.fTransA), .v (.bool x.fs.fTransB), .v (.int .i64 x.fs.fGroup), .arr x.fs.fKernel.length (lm (ik .i64) x.fs.fKernel), .arr x.fs.fStrides.length (lm (ik .i64) x.fs.fStrides), .arr x.fs.fPads.length (lm (ik .i64) x.fs.fPads), .arr x.fs.fDilations.length (lm (ik .i64) x.fs.fDilations), .v (.int .i64 x.fs.fAuto), .v (.bool x.fs.fCeil), .v (.bool x.fs.fCount), .v (.int .i64 x.fs.fBlock), .v (.int .i64 x.fs.fStart), .v (.int .i64 x.fs.fEnd), .v (.bool x.fs.fHasEnd), .v (.int .i64 x.fs.fValue.fType), .arr x.fs.fValue.fDims.length (lm (ik .i64) x.fs.fValue.fDims), .arr x.fs.fValue.fF.length (lm (ik .u32) x.fs.fValue.fF), .arr x.fs.fValue.fI.length (lm (ik .i64) x.fs.fValue.fI), .arr x.fs.fValue.fB.length (lm (bk) x.fs.fValue.fB), .arr x.fin.length (fm c_T_Tensor x.fin), .arr x.fvals.length (fm c_T_Val x.fvals), .arr x.fd.length (lm (ik .i64) x.fd), .v (.int .i64 x.faxis), .arr x.fout.length (lm (ik .i64) x.fout), .v (.int .i64 x.ffrom)] := rfl
theorem c_T_Tensor_inj : Inj c_T_Tensor := by
  intro a b h
  obtain ⟨a0, a1, a2, a3, a4⟩ := a
  obtain ⟨b0, b1, b2, b3, b4⟩ := b
  simp only [c_T_Tensor_at, INJ] at h
  simp_all
theorem c_T_Setting_inj : Inj c_T_Setting := by
  intro a b h
  obtain ⟨a0, a1, a2, a3, a4, a5, a6, a7, a8, a9, a10, a11, a12, a13, a14, a15, a16, a17, a18, a19, a20, a21, a22, a23, a24, a25, a26, a27, a28, a29, a30, ⟨a_310, a_311, a_312, a_313, a_314⟩⟩ := a
  obtain ⟨b0, b1, b2, b3, b4, b5, b6, b7, b8, b9, b10, b11, b12, b13, b14, b15, b16, b17, b18, b19, b20, b21, b22, b23, b24, b25, b26, b27, b28, b29, b30, ⟨b_310, b_311, b_312, b_313, b_314⟩⟩ := b
  simp only [c_T_Setting_at, INJ, @c_inj_iff _ _ c_T_Tensor_inj, @lm_inj_iff _ _ (inj_avf (inj_fm c_T_Tensor_len (by decide) c_T_Tensor_inj)), @fm_inj_iff _ _ (inj_fm c_T_Tensor_len (by decide) c_T_Tensor_inj)] at h
  simp_all
theorem c_T_Val_inj : Inj c_T_Val := by
  intro a b h
  obtain ⟨a0, a1, a2, ⟨a_30, a_31, a_32, a_33, a_34⟩⟩ := a
  obtain ⟨b0, b1, b2, ⟨b_30, b_31, b_32, b_33, b_34⟩⟩ := b
  simp only [c_T_Val_at, INJ, @c_inj_iff _ _ c_T_Tensor_inj, @lm_inj_iff _ _ (inj_avf (inj_fm c_T_Tensor_len (by decide) c_T_Tensor_inj)), @fm_inj_iff _ _ (inj_fm c_T_Tensor_len (by decide) c_T_Tensor_inj), @c_inj_iff _ _ c_T_Setting_inj, @lm_inj_iff _ _ (inj_avf (inj_fm c_T_Setting_len (by decide) c_T_Setting_inj)), @fm_inj_iff _ _ (inj_fm c_T_Setting_len (by decide) c_T_Setting_inj)] at h
  simp_all
theorem c_T_infer_ask_inj : Inj c_T_infer_ask := by
  intro a b h
  obtain ⟨a0, ⟨a_10, a_11, a_12, a_13, a_14, a_15, a_16, a_17, a_18, a_19, a_110, a_111, a_112, a_113, a_114, a_115, a_116, a_117, a_118, a_119, a_120, a_121, a_122, a_123, a_124, a_125, a_126, a_127, a_128, a_129, a_130, ⟨a_1_310, a_1_311, a_1_312, a_1_313, a_1_314⟩⟩, a2, a3⟩ := a
  obtain ⟨b0, ⟨b_10, b_11, b_12, b_13, b_14, b_15, b_16, b_17, b_18, b_19, b_110, b_111, b_112, b_113, b_114, b_115, b_116, b_117, b_118, b_119, b_120, b_121, b_122, b_123, b_124, b_125, b_126, b_127, b_128, b_129, b_130, ⟨b_1_310, b_1_311, b_1_312, b_1_313, b_1_314⟩⟩, b2, b3⟩ := b
  simp only [c_T_infer_ask_at, INJ, @c_inj_iff _ _ c_T_Tensor_inj, @lm_inj_iff _ _ (inj_avf (inj_fm c_T_Tensor_len (by decide) c_T_Tensor_inj)), @fm_inj_iff _ _ (inj_fm c_T_Tensor_len (by decide) c_T_Tensor_inj), @c_inj_iff _ _ c_T_Setting_inj, @lm_inj_iff _ _ (inj_avf (inj_fm c_T_Setting_len (by decide) c_T_Setting_inj)), @fm_inj_iff _ _ (inj_fm c_T_Setting_len (by decide) c_T_Setting_inj), @c_inj_iff _ _ c_T_Val_inj, @lm_inj_iff _ _ (inj_avf (inj_fm c_T_Val_len (by decide) c_T_Val_inj)), @fm_inj_iff _ _ (inj_fm c_T_Val_len (by decide) c_T_Val_inj)] at h
  simp_all
theorem c_T_mat_grid_inj : Inj c_T_mat_grid := by
  intro a b h
  obtain ⟨a0, a1, a2, a3, a4, a5⟩ := a
  obtain ⟨b0, b1, b2, b3, b4, b5⟩ := b
  simp only [c_T_mat_grid_at, INJ, @c_inj_iff _ _ c_T_Tensor_inj, @lm_inj_iff _ _ (inj_avf (inj_fm c_T_Tensor_len (by decide) c_T_Tensor_inj)), @fm_inj_iff _ _ (inj_fm c_T_Tensor_len (by decide) c_T_Tensor_inj), @c_inj_iff _ _ c_T_Setting_inj, @lm_inj_iff _ _ (inj_avf (inj_fm c_T_Setting_len (by decide) c_T_Setting_inj)), @fm_inj_iff _ _ (inj_fm c_T_Setting_len (by decide) c_T_Setting_inj), @c_inj_iff _ _ c_T_Val_inj, @lm_inj_iff _ _ (inj_avf (inj_fm c_T_Val_len (by decide) c_T_Val_inj)), @fm_inj_iff _ _ (inj_fm c_T_Val_len (by decide) c_T_Val_inj), @c_inj_iff _ _ c_T_infer_ask_inj, @lm_inj_iff _ _ (inj_avf (inj_fm c_T_infer_ask_len (by decide) c_T_infer_ask_inj)), @fm_inj_iff _ _ (inj_fm c_T_infer_ask_len (by decide) c_T_infer_ask_inj)] at h
  simp_all
theorem c_T_mat_line_uint32_inj : Inj c_T_mat_line_uint32 := by
  intro a b h
  obtain ⟨a0, a1, a2, a3⟩ := a
  obtain ⟨b0, b1, b2, b3⟩ := b
  simp only [c_T_mat_line_uint32_at, INJ, @c_inj_iff _ _ c_T_Tensor_inj, @lm_inj_iff _ _ (inj_avf (inj_fm c_T_Tensor_len (by decide) c_T_Tensor_inj)), @fm_inj_iff _ _ (inj_fm c_T_Tensor_len (by decide) c_T_Tensor_inj), @c_inj_iff _ _ c_T_Setting_inj, @lm_inj_iff _ _ (inj_avf (inj_fm c_T_Setting_len (by decide) c_T_Setting_inj)), @fm_inj_iff _ _ (inj_fm c_T_Setting_len (by decide) c_T_Setting_inj), @c_inj_iff _ _ c_T_Val_inj, @lm_inj_iff _ _ (inj_avf (inj_fm c_T_Val_len (by decide) c_T_Val_inj)), @fm_inj_iff _ _ (inj_fm c_T_Val_len (by decide) c_T_Val_inj), @c_inj_iff _ _ c_T_infer_ask_inj, @lm_inj_iff _ _ (inj_avf (inj_fm c_T_infer_ask_len (by decide) c_T_infer_ask_inj)), @fm_inj_iff _ _ (inj_fm c_T_infer_ask_len (by decide) c_T_infer_ask_inj), @c_inj_iff _ _ c_T_mat_grid_inj, @lm_inj_iff _ _ (inj_avf (inj_fm c_T_mat_grid_len (by decide) c_T_mat_grid_inj)), @fm_inj_iff _ _ (inj_fm c_T_mat_grid_len (by decide) c_T_mat_grid_inj)] at h
  simp_all
theorem c_T_soft_number_inj : Inj c_T_soft_number := by
  intro a b h
  obtain ⟨a0, a1, a2, a3, a4⟩ := a
  obtain ⟨b0, b1, b2, b3, b4⟩ := b
  simp only [c_T_soft_number_at, INJ, @c_inj_iff _ _ c_T_Tensor_inj, @lm_inj_iff _ _ (inj_avf (inj_fm c_T_Tensor_len (by decide) c_T_Tensor_inj)), @fm_inj_iff _ _ (inj_fm c_T_Tensor_len (by decide) c_T_Tensor_inj), @c_inj_iff _ _ c_T_Setting_inj, @lm_inj_iff _ _ (inj_avf (inj_fm c_T_Setting_len (by decide) c_T_Setting_inj)), @fm_inj_iff _ _ (inj_fm c_T_Setting_len (by decide) c_T_Setting_inj), @c_inj_iff _ _ c_T_Val_inj, @lm_inj_iff _ _ (inj_avf (inj_fm c_T_Val_len (by decide) c_T_Val_inj)), @fm_inj_iff _ _ (inj_fm c_T_Val_len (by decide) c_T_Val_inj), @c_inj_iff _ _ c_T_infer_ask_inj, @lm_inj_iff _ _ (inj_avf (inj_fm c_T_infer_ask_len (by decide) c_T_infer_ask_inj)), @fm_inj_iff _ _ (inj_fm c_T_infer_ask_len (by decide) c_T_infer_ask_inj), @c_inj_iff _ _ c_T_mat_grid_inj, @lm_inj_iff _ _ (inj_avf (inj_fm c_T_mat_grid_len (by decide) c_T_mat_grid_inj)), @fm_inj_iff _ _ (inj_fm c_T_mat_grid_len (by decide) c_T_mat_grid_inj), @c_inj_iff _ _ c_T_mat_line_uint32_inj, @lm_inj_iff _ _ (inj_avf (inj_fm c_T_mat_line_uint32_len (by decide) c_T_mat_line_uint32_inj)), @fm_inj_iff _ _ (inj_fm c_T_mat_line_uint32_len (by decide) c_T_mat_line_uint32_inj)] at h
  simp_all
theorem c_T_ref12_job_inj : Inj c_T_ref12_job := by
  intro a b h
  obtain ⟨a0, ⟨a_10, a_11, a_12, a_13, a_14, a_15, a_16, a_17, a_18, a_19, a_110, a_111, a_112, a_113, a_114, a_115, a_116, a_117, a_118, a_119, a_120, a_121, a_122, a_123, a_124, a_125, a_126, a_127, a_128, a_129, a_130, ⟨a_1_310, a_1_311, a_1_312, a_1_313, a_1_314⟩⟩, a2, a3, a4, a5, a6, a7⟩ := a
  obtain ⟨b0, ⟨b_10, b_11, b_12, b_13, b_14, b_15, b_16, b_17, b_18, b_19, b_110, b_111, b_112, b_113, b_114, b_115, b_116, b_117, b_118, b_119, b_120, b_121, b_122, b_123, b_124, b_125, b_126, b_127, b_128, b_129, b_130, ⟨b_1_310, b_1_311, b_1_312, b_1_313, b_1_314⟩⟩, b2, b3, b4, b5, b6, b7⟩ := b
  simp only [c_T_ref12_job_at, INJ, @c_inj_iff _ _ c_T_Tensor_inj, @lm_inj_iff _ _ (inj_avf (inj_fm c_T_Tensor_len (by decide) c_T_Tensor_inj)), @fm_inj_iff _ _ (inj_fm c_T_Tensor_len (by decide) c_T_Tensor_inj), @c_inj_iff _ _ c_T_Setting_inj, @lm_inj_iff _ _ (inj_avf (inj_fm c_T_Setting_len (by decide) c_T_Setting_inj)), @fm_inj_iff _ _ (inj_fm c_T_Setting_len (by decide) c_T_Setting_inj), @c_inj_iff _ _ c_T_Val_inj, @lm_inj_iff _ _ (inj_avf (inj_fm c_T_Val_len (by decide) c_T_Val_inj)), @fm_inj_iff _ _ (inj_fm c_T_Val_len (by decide) c_T_Val_inj), @c_inj_iff _ _ c_T_infer_ask_inj, @lm_inj_iff _ _ (inj_avf (inj_fm c_T_infer_ask_len (by decide) c_T_infer_ask_inj)), @fm_inj_iff _ _ (inj_fm c_T_infer_ask_len (by decide) c_T_infer_ask_inj), @c_inj_iff _ _ c_T_mat_grid_inj, @lm_inj_iff _ _ (inj_avf (inj_fm c_T_mat_grid_len (by decide) c_T_mat_grid_inj)), @fm_inj_iff _ _ (inj_fm c_T_mat_grid_len (by decide) c_T_mat_grid_inj), @c_inj_iff _ _ c_T_mat_line_uint32_inj, @lm_inj_iff _ _ (inj_avf (inj_fm c_T_mat_line_uint32_len (by decide) c_T_mat_line_uint32_inj)), @fm_inj_iff _ _ (inj_fm c_T_mat_line_uint32_len (by decide) c_T_mat_line_uint32_inj), @c_inj_iff _ _ c_T_soft_number_inj, @lm_inj_iff _ _ (inj_avf (inj_fm c_T_soft_number_len (by decide) c_T_soft_number_inj)), @fm_inj_iff _ _ (inj_fm c_T_soft_number_len (by decide) c_T_soft_number_inj)] at h
  simp_all
def TT0 := And.intro @ts2 <| And.intro @pt2 <| And.intro @st2 <| And.intro @ts3 <| And.intro @pt3 <| And.intro @st3 <| And.intro @ts4 <| And.intro @pt4 <| And.intro @sb4 <| And.intro @ts5 <| And.intro @pt5 <| And.intro @st5 <| And.intro @ts9 <| And.intro @pt9 <| And.intro @le9 <| And.intro @ix9 <| And.intro @ts22 <| And.intro @pt22 <| And.intro @ia22 <| And.intro @io22 <| And.intro @le22 <| And.intro @mk22 <| And.intro @ap22 <| And.intro @bs22 <| And.intro @sa22 <| And.intro @so22 <| And.intro @ts24 <| And.intro @pt24 <| And.intro @st24 <| And.intro @ts27 <| And.intro @pt27 <| And.intro @ia27 <| And.intro @io27 <| And.intro @le27 <| And.intro @mk27 <| And.intro @ap27 <| And.intro @bs27 <| And.intro @ao27 <| And.intro @as27 <| @sa27
def TT1 := And.intro @so27 <| And.intro @ts28 <| And.intro @pt28 <| And.intro @ia28 <| And.intro @io28 <| And.intro @le28 <| And.intro @mk28 <| And.intro @ap28 <| And.intro @bs28 <| And.intro @sa28 <| And.intro @so28 <| And.intro @ts29 <| And.intro @pt29 <| And.intro @ia29 <| And.intro @io29 <| And.intro @le29 <| And.intro @mk29 <| And.intro @ap29 <| And.intro @bs29 <| And.intro @sa29 <| And.intro @so29 <| And.intro @ts31 <| And.intro @pt31 <| And.intro @sg31 <| And.intro @ts33 <| And.intro @pt33 <| And.intro @sg33 <| And.intro @ts34 <| And.intro @pt34 <| And.intro @ia34 <| And.intro @io34 <| And.intro @le34 <| And.intro @ap34 <| And.intro @af34 <| And.intro @bs34 <| And.intro @sa34 <| And.intro @so34 <| And.intro @ts35 <| And.intro @pt35 <| @st35
def TT2 := And.intro @ts51 <| And.intro @pt51 <| And.intro @ia51 <| And.intro @io51 <| And.intro @le51 <| And.intro @ap51 <| And.intro @af51 <| And.intro @bs51 <| And.intro @sa51 <| And.intro @so51 <| And.intro @ts56 <| And.intro @pt56 <| And.intro @sg56 <| And.intro @ts65 <| And.intro @pt65 <| And.intro @sg65 <| And.intro @ts67 <| And.intro @pt67 <| And.intro @ia67 <| And.intro @io67 <| And.intro @le67 <| And.intro @bs67 <| And.intro @sa67 <| And.intro @so67 <| And.intro @ts75 <| And.intro @pt75 <| And.intro @sg75 <| And.intro @ts87 <| And.intro @pt87 <| And.intro @ts89 <| And.intro @pt89 <| And.intro @st89 <| And.intro @ts91 <| And.intro @pt91 <| And.intro @sg91 <| And.intro @ts119 <| And.intro @pt119 <| And.intro @ia119 <| And.intro @io119 <| @le119
def TT3 := And.intro @ap119 <| And.intro @bs119 <| And.intro @sa119 <| And.intro @so119 <| And.intro @ts155 <| And.intro @pt155 <| And.intro @fo31_0 <| And.intro @fp31_0 <| And.intro @fr31_0 <| And.intro @fo31_1 <| And.intro @fp31_1 <| And.intro @fr31_1 <| And.intro @fo31_2 <| And.intro @fp31_2 <| And.intro @fr31_2 <| And.intro @fo31_3 <| And.intro @fp31_3 <| And.intro @fr31_3 <| And.intro @fo31_4 <| And.intro @fp31_4 <| And.intro @fr31_4 <| And.intro @fo33_0 <| And.intro @fp33_0 <| And.intro @fr33_0 <| And.intro @fo33_7 <| And.intro @fp33_7 <| And.intro @fr33_7 <| And.intro @fo33_8 <| And.intro @fp33_8 <| And.intro @fr33_8 <| And.intro @fo33_9 <| And.intro @fp33_9 <| And.intro @fr33_9 <| And.intro @fo33_10 <| And.intro @fp33_10 <| And.intro @fr33_10 <| And.intro @fo33_17 <| And.intro @fp33_17 <| And.intro @fr33_17 <| @fo33_18
def TT4 := And.intro @fp33_18 <| And.intro @fr33_18 <| And.intro @fo56_0 <| And.intro @fp56_0 <| And.intro @fr56_0 <| And.intro @fd56_0 <| And.intro @fo56_1 <| And.intro @fp56_1 <| And.intro @fr56_1 <| And.intro @fd56_1 <| And.intro @fo56_2 <| And.intro @fp56_2 <| And.intro @fr56_2 <| And.intro @fo56_3 <| And.intro @fp56_3 <| And.intro @fr56_3 <| And.intro @fo65_0 <| And.intro @fp65_0 <| And.intro @fr65_0 <| And.intro @fo65_1 <| And.intro @fp65_1 <| And.intro @fr65_1 <| And.intro @fo65_2 <| And.intro @fp65_2 <| And.intro @fr65_2 <| And.intro @fo65_3 <| And.intro @fp65_3 <| And.intro @fr65_3 <| And.intro @fo75_0 <| And.intro @fp75_0 <| And.intro @fr75_0 <| And.intro @fo75_1 <| And.intro @fp75_1 <| And.intro @fr75_1 <| And.intro @fo75_2 <| And.intro @fp75_2 <| And.intro @fr75_2 <| And.intro @fo75_3 <| And.intro @fp75_3 <| @fr75_3
def TT5 := And.intro @fo75_4 <| And.intro @fp75_4 <| And.intro @fr75_4 <| And.intro @fo75_5 <| And.intro @fp75_5 <| And.intro @fr75_5 <| And.intro @fo87_0 <| And.intro @fp87_0 <| And.intro @fr87_0 <| And.intro @fo87_1 <| And.intro @fp87_1 <| And.intro @fr87_1 <| And.intro @fo87_2 <| And.intro @fp87_2 <| And.intro @fr87_2 <| And.intro @fo87_3 <| And.intro @fp87_3 <| And.intro @fr87_3 <| And.intro @fo87_4 <| And.intro @fp87_4 <| And.intro @fr87_4 <| And.intro @fo87_5 <| And.intro @fp87_5 <| And.intro @fr87_5 <| And.intro @fo87_6 <| And.intro @fp87_6 <| And.intro @fr87_6 <| And.intro @fo91_0 <| And.intro @fp91_0 <| And.intro @fr91_0 <| And.intro @fo91_1 <| And.intro @fp91_1 <| And.intro @fr91_1 <| And.intro @fo91_2 <| And.intro @fp91_2 <| And.intro @fr91_2 <| And.intro @fo91_3 <| And.intro @fp91_3 <| And.intro @fr91_3 <| @fo91_4
def TT6 := And.intro @fp91_4 <| And.intro @fr91_4 <| And.intro @fo155_0 <| And.intro @fp155_0 <| And.intro @fr155_0 <| And.intro @fo155_1 <| And.intro @fp155_1 <| And.intro @fr155_1 <| And.intro @fo155_2 <| And.intro @fp155_2 <| And.intro @fr155_2 <| And.intro @fo155_3 <| And.intro @fp155_3 <| And.intro @fr155_3 <| And.intro @bl31 <| And.intro @fl31_0 <| And.intro @fl31_1 <| And.intro @fl31_2 <| And.intro @fl31_3 <| And.intro @fl31_4 <| And.intro @bl33 <| And.intro @fl33_0 <| And.intro @fl33_7 <| And.intro @fl33_8 <| And.intro @fl33_9 <| And.intro @fl33_10 <| And.intro @fl33_17 <| And.intro @fl33_18 <| And.intro @bl56 <| And.intro @fl56_0 <| And.intro @fl56_1 <| And.intro @fl56_2 <| And.intro @fl56_3 <| And.intro @bl65 <| And.intro @fl65_0 <| And.intro @fl65_1 <| And.intro @fl65_2 <| And.intro @fl65_3 <| And.intro @bl75 <| @fl75_0
def TT7 := And.intro @fl75_1 <| And.intro @fl75_2 <| And.intro @fl75_3 <| And.intro @fl75_4 <| And.intro @fl75_5 <| And.intro @bl87 <| And.intro @fl87_0 <| And.intro @fl87_1 <| And.intro @fl87_2 <| And.intro @fl87_3 <| And.intro @fl87_4 <| And.intro @fl87_5 <| And.intro @fl87_6 <| And.intro @bl91 <| And.intro @fl91_0 <| And.intro @fl91_1 <| And.intro @fl91_2 <| And.intro @fl91_3 <| And.intro @fl91_4 <| And.intro @bl155 <| And.intro @fl155_0 <| And.intro @fl155_1 <| And.intro @fl155_2 <| And.intro @fl155_3 <| And.intro @al22 <| And.intro @aq22 <| And.intro @al31 <| And.intro @aq31 <| And.intro @al33 <| And.intro @aq33 <| And.intro @al56 <| And.intro @aq56 <| And.intro @al65 <| And.intro @aq65 <| And.intro @al75 <| And.intro @aq75 <| And.intro @al91 <| And.intro @aq91 <| And.intro @ab4 <| @cv3_89
def TT8 := And.intro @cv5_3 <| And.intro @cv24_3 <| And.intro @cv24_89 <| And.intro @cv89_5 <| And.intro @cv89_24 <| And.intro @ty22 <| And.intro @ty27 <| And.intro @ty28 <| And.intro @ty29 <| And.intro @ty31 <| And.intro @ty34 <| And.intro @ty51 <| And.intro @ty56 <| And.intro @ty67 <| And.intro @ty75 <| And.intro @ty91 <| And.intro @c_T_Tensor_at <| And.intro (fun l => @one_fm _ c_T_Tensor l c_T_Tensor_one) <| And.intro @c_T_Setting_at <| And.intro (fun l => @one_fm _ c_T_Setting l c_T_Setting_one) <| And.intro @c_T_Val_at <| And.intro (fun l => @one_fm _ c_T_Val l c_T_Val_one) <| And.intro @c_T_infer_ask_at <| And.intro (fun l => @one_fm _ c_T_infer_ask l c_T_infer_ask_one) <| And.intro @c_T_mat_grid_at <| And.intro (fun l => @one_fm _ c_T_mat_grid l c_T_mat_grid_one) <| And.intro @c_T_mat_line_uint32_at <| And.intro (fun l => @one_fm _ c_T_mat_line_uint32 l c_T_mat_line_uint32_one) <| And.intro @c_T_soft_number_at <| And.intro (fun l => @one_fm _ c_T_soft_number l c_T_soft_number_one) <| And.intro @c_T_ref12_job_at <| (fun l => @one_fm _ c_T_ref12_job l c_T_ref12_job_one)
def TT := And.intro @TT0 <| And.intro @TT1 <| And.intro @TT2 <| And.intro @TT3 <| And.intro @TT4 <| And.intro @TT5 <| And.intro @TT6 <| And.intro @TT7 <| @TT8
def OF := And.intro (fun l => @one_fm _ c_T_Tensor l c_T_Tensor_one) <| And.intro (fun l => @one_fm _ c_T_Setting l c_T_Setting_one) <| And.intro (fun l => @one_fm _ c_T_Val l c_T_Val_one) <| And.intro (fun l => @one_fm _ c_T_infer_ask l c_T_infer_ask_one) <| And.intro (fun l => @one_fm _ c_T_mat_grid l c_T_mat_grid_one) <| And.intro (fun l => @one_fm _ c_T_mat_line_uint32 l c_T_mat_line_uint32_one) <| And.intro (fun l => @one_fm _ c_T_soft_number l c_T_soft_number_one) <| (fun l => @one_fm _ c_T_ref12_job l c_T_ref12_job_one)
def NT := And.intro @c_T_Tensor_at <| And.intro @c_T_Setting_at <| And.intro @c_T_Val_at <| And.intro @c_T_infer_ask_at <| And.intro @c_T_mat_grid_at <| And.intro @c_T_mat_line_uint32_at <| And.intro @c_T_soft_number_at <| @c_T_ref12_job_at
def OZ := And.intro LN <| And.intro RO OF
theorem Zd {p : Prop} (h : p := by first | assumption | decide | with_unfolding_all rfl | omega | simp only [OZ] <;> omega | fail) : p := h
theorem Ze {p : Prop} (h : p := by first | rfl | (simp only [LN, NN, NT])) : p := h
theorem Zh {p : Prop} (h : p := by first | (simp (disch := first | exact Zd | fail) only [RR, simprocAttr, LN, NN, NT]; done) | (simp (disch := first | exact Zd | fail) only [RR, simprocAttr, LN, fm_app, NN, NT]; done) | rfl) : p := h
def FN := And.intro FF <| And.intro LN <| And.intro NN NT
theorem openBC_nil {lvl k c : Nat} {h : Heap} {id : Id} {cells : List AV} : openBC lvl k 0 c h id cells (.v (.slice none 0 0)) = some (h.set id (.bx true (cells.set c (.arr 0 [])))) := rfl
theorem appI_1set {α : Type} {f : α → AV} {lvl d by_ n i : Nat} {h : Heap} {id : Id} {l : List (List α)} {x : List α} {y : α} (h3 : n + 1 ≤ 140737488355328) (h4 : (n + 1) * by_ ≤ 140737488355328) : appI lvl d 1 by_ h 1 [.arr x.length (lm f (x.set i y))] id n n (.sl true true 1 n (lm (avl f) l)) = some (.own id 0 (n + 1) (n + 1), h.set id (.sl true true 1 (n + 1) (lm (avl f) (l ++ [x.set i y])))) := by
 have := appI_1avl (x := x.set i y) (f := f) (l := l) (n := n) (by_ := by_) (h := h) (lvl := lvl) (d := d) (id := id) h3 h4
 rwa [List.length_set] at this
theorem putCells_lt {a b c d : List AV} : ∀ {ys : List AV} {n : Nat}, b.length = ys.length → a.length = n → putCells (a ++ b ++ d) n ys = a ++ ys ++ d := by
  intro ys
  induction ys generalizing a b with
  | nil => intro n hb ha; cases b with
    | nil => simp [putCells]
    | cons => simp at hb
  | cons y ys ih =>
    intro n hb ha
    cases b with
    | nil => simp at hb
    | cons z b =>
      have e : (a ++ z :: b ++ d).set n y = (a ++ [y]) ++ b ++ d := by
        subst ha
        simp
      rw [putCells, e, ih (by simpa using hb) (by simp; omega)]
      simp
theorem put_fm {α : Type} {c : α → List AV} {w : Nat} (hw : ∀ x, (c x).length = w) {l : List α} {i : Nat} {x : α} (hi : i < l.length) : putCells (fm c l) (i * w) (c x) = fm c (l.set i x) := by
  have e1 : l = l.take i ++ l[i] :: l.drop (i + 1) := by rw [← List.drop_eq_getElem_cons hi, List.take_append_drop]
  have e2 : l.set i x = l.take i ++ x :: l.drop (i + 1) := List.set_eq_take_append_cons_drop .. |>.trans (if_pos hi)
  have h1 : fm c l = fm c (l.take i) ++ c l[i] ++ fm c (l.drop (i + 1)) := by
    conv => lhs; rw [e1]
    simp only [fm, List.flatMap_append, List.flatMap_cons, List.append_assoc]
  have h2 : fm c (l.set i x) = fm c (l.take i) ++ c x ++ fm c (l.drop (i + 1)) := by
    rw [e2]; simp only [fm, List.flatMap_append, List.flatMap_cons, List.append_assoc]
  rw [h1, h2, putCells_lt (a := fm c (l.take i)) (b := c l[i]) (c := []) (by rw [hw, hw]) (by rw [fm_length hw, List.length_take, Nat.min_eq_left (by omega)])]
theorem stE5_fm {P : Program} {t : TypeId} {h : Heap} {id : Id} {off : Nat} {α : Type} {c : α → List AV} {l : List α} {i : Nat} {x : α} {k : IntKind} {v : Int} {n1 n2 n3 n4 : Nat} {l1 l2 l3 l4 : List AV} (hw : ∀ x, (c x).length = 5) (hsz : tsize P t = 5) (hx : [.v (.int k v), .arr n1 l1, .arr n2 l2, .arr n3 l3, .arr n4 l4] = c x) (hi : i < l.length) (ho : off = i * 5) (hg : h.get id = some (.sl true true 5 l.length (fm c l))) :
    stX P t h (.ptr id off l.length) (.agg [.v (.int k v), .arr n1 l1, .arr n2 l2, .arr n3 l3, .arr n4 l4]) = some (.v undef, h.set id (.sl true true 5 l.length (fm c (l.set i x)))) := by
  have hf : (fm c l).length = l.length * 5 := fm_length hw
  unfold stX
  subst ho
  rw [if_pos (by rw [hsz]; exact ⟨rfl, by omega⟩)]
  have e : (AV.agg [.v (.int k v), .arr n1 l1, .arr n2 l2, .arr n3 l3, .arr n4 l4]).cells = [.v (.int k v), .arr n1 l1, .arr n2 l2, .arr n3 l3, .arr n4 l4] := rfl
  unfold astore
  simp only [hg, ob_some, e, Blk.ext, Blk.cells, hf]
  have hb5 : i * 5 + [AV.v (.int k v), .arr n1 l1, .arr n2 l2, .arr n3 l3, .arr n4 l4].length ≤ l.length * 5 := by simp; omega
  have ha5 : [AV.v (.int k v), .arr n1 l1, .arr n2 l2, .arr n3 l3, .arr n4 l4].all AV.one = true := rfl
  simp only [hb5, ha5, and_self, if_true]
  have ex : List.mapM (exportV h.get 4) [AV.v (.int k v), .arr n1 l1, .arr n2 l2, .arr n3 l3, .arr n4 l4] = some [AV.v (.int k v), .arr n1 l1, .arr n2 l2, .arr n3 l3, .arr n4 l4] := by
    simp [List.mapM_cons, exportV]
  have eb : (List.map (borrowed h.get 4) [AV.v (.int k v), .arr n1 l1, .arr n2 l2, .arr n3 l3, .arr n4 l4]).flatten = [] := by
    simp [borrowed]
  simp only [ex, eb, ob_some, freezeAll, hg]
  rw [hx, put_fm hw hi]
theorem stT0 {t : TypeId} {h : Heap} {id : Id} {l : List T_Tensor} {x : T_Tensor} (hsz : tsize Tryz.prog t = 5) (hi : 0 < l.length) (hg : h.get id = some (.sl true true 5 l.length (fm c_T_Tensor l))) : stX Tryz.prog t h (.ptr id 0 l.length) (.agg [.v (.int .i64 x.fType), .arr x.fDims.length (lm (ik .i64) x.fDims), .arr x.fF.length (lm (ik .u32) x.fF), .arr x.fI.length (lm (ik .i64) x.fI), .arr x.fB.length (lm (bk) x.fB)]) = some (.v undef, h.set id (.sl true true 5 l.length (fm c_T_Tensor (l.set 0 x)))) := stE5_fm c_T_Tensor_len hsz rfl hi rfl hg
theorem stT1 {t : TypeId} {h : Heap} {id : Id} {l : List T_Tensor} {x : T_Tensor} (hsz : tsize Tryz.prog t = 5) (hi : 1 < l.length) (hg : h.get id = some (.sl true true 5 l.length (fm c_T_Tensor l))) : stX Tryz.prog t h (.ptr id 5 l.length) (.agg [.v (.int .i64 x.fType), .arr x.fDims.length (lm (ik .i64) x.fDims), .arr x.fF.length (lm (ik .u32) x.fF), .arr x.fI.length (lm (ik .i64) x.fI), .arr x.fB.length (lm (bk) x.fB)]) = some (.v undef, h.set id (.sl true true 5 l.length (fm c_T_Tensor (l.set 1 x)))) := stE5_fm c_T_Tensor_len hsz rfl hi rfl hg
theorem afE {lvl d m by_ : Nat} {h : Heap} {id : Id} {b : List T_Tensor} (hm : m = b.length) (h3 : m ≤ 140737488355328) (h4 : m * by_ ≤ 140737488355328) : appI lvl d 5 by_ h m (fm c_T_Tensor b) id 0 0 (.sl true true 5 0 []) = some (.own id 0 m m, h.set id (.sl true true 5 m (fm c_T_Tensor b))) := by
  have := appI_fm (lvl := lvl) (d := d) (m := m) (h := h) (id := id) (n := 0) (by_ := by_) (l := []) (b := b) c_T_Tensor_len hm (by omega) (by rw [Nat.zero_add]; exact h4) (one_fm c_T_Tensor_one)
  rwa [Nat.zero_add, List.nil_append] at this
def ZZ := And.intro @openBC_nil <| And.intro @appI_1set <| And.intro @afE <| And.intro @stT0 <| And.intro @stT1 <| And.intro RR <| And.intro RM <| And.intro LN <| And.intro TT RH
theorem Jc {β : Type} {m m' : Option AV} {s : Option β} {enc : β → AV} (j : J m' s enc) (h : m = m' := by conv => lhs; simp (disch := first | exact Zd | fail) only [ZZ, simprocAttr, *]) : J m s enc := J.eq h j
theorem Js {p : Prop} (h : p := by simp (maxSteps := 20000000) (disch := first | exact Zd | fail) only [ZZ, simprocAttr, FN, *]) : p := h
def IJ := And.intro (@c_inj_iff _ _ c_T_Tensor_inj) <| And.intro (@lm_inj_iff _ _ (inj_avf (inj_fm c_T_Tensor_len (by decide) c_T_Tensor_inj))) <| And.intro (@fm_inj_iff _ _ (inj_fm c_T_Tensor_len (by decide) c_T_Tensor_inj)) <| And.intro (@c_inj_iff _ _ c_T_Setting_inj) <| And.intro (@lm_inj_iff _ _ (inj_avf (inj_fm c_T_Setting_len (by decide) c_T_Setting_inj))) <| And.intro (@fm_inj_iff _ _ (inj_fm c_T_Setting_len (by decide) c_T_Setting_inj)) <| And.intro (@c_inj_iff _ _ c_T_Val_inj) <| And.intro (@lm_inj_iff _ _ (inj_avf (inj_fm c_T_Val_len (by decide) c_T_Val_inj))) <| And.intro (@fm_inj_iff _ _ (inj_fm c_T_Val_len (by decide) c_T_Val_inj)) <| And.intro (@c_inj_iff _ _ c_T_infer_ask_inj) <| And.intro (@lm_inj_iff _ _ (inj_avf (inj_fm c_T_infer_ask_len (by decide) c_T_infer_ask_inj))) <| And.intro (@fm_inj_iff _ _ (inj_fm c_T_infer_ask_len (by decide) c_T_infer_ask_inj)) <| And.intro (@c_inj_iff _ _ c_T_mat_grid_inj) <| And.intro (@lm_inj_iff _ _ (inj_avf (inj_fm c_T_mat_grid_len (by decide) c_T_mat_grid_inj))) <| And.intro (@fm_inj_iff _ _ (inj_fm c_T_mat_grid_len (by decide) c_T_mat_grid_inj)) <| And.intro (@c_inj_iff _ _ c_T_mat_line_uint32_inj) <| And.intro (@lm_inj_iff _ _ (inj_avf (inj_fm c_T_mat_line_uint32_len (by decide) c_T_mat_line_uint32_inj))) <| And.intro (@fm_inj_iff _ _ (inj_fm c_T_mat_line_uint32_len (by decide) c_T_mat_line_uint32_inj)) <| And.intro (@c_inj_iff _ _ c_T_soft_number_inj) <| And.intro (@lm_inj_iff _ _ (inj_avf (inj_fm c_T_soft_number_len (by decide) c_T_soft_number_inj))) <| And.intro (@fm_inj_iff _ _ (inj_fm c_T_soft_number_len (by decide) c_T_soft_number_inj)) <| And.intro (@c_inj_iff _ _ c_T_ref12_job_inj) <| And.intro (@lm_inj_iff _ _ (inj_avf (inj_fm c_T_ref12_job_len (by decide) c_T_ref12_job_inj))) <| (@fm_inj_iff _ _ (inj_fm c_T_ref12_job_len (by decide) c_T_ref12_job_inj))
theorem Zi {p : Prop} (h : p := by intro a b h; first | (exact rfl) | (simp only [INJ, IJ] at h; first | exact h | (simp_all [Prod.ext_iff]) )) : p := h
def ZG := And.intro ZZ <| And.intro RU <| And.intro @go_seq <| And.intro @ret_seq <| And.intro @Nat.sub_zero @Nat.zero_le
def ZN := And.intro ZZ RU
theorem Jg {β : Type} {m m' : Option AV} {s : Option β} {enc : β → AV} (j : J m' s enc) (h : m = m' := by conv => lhs; try simp (maxSteps := 20000000) (disch := first | exact Zd | fail) only [ZG, simprocAttr, *]) : J m s enc := J.eq h j
theorem Jn {β : Type} {m m' : Option AV} {s : Option β} {enc : β → AV} {i : Nat} {ρ τ : Type} {r : ρ} {fj : τ → Option β} (j : J m' (jn i r fj s) enc) (h : m = m' := by conv => lhs; simp (maxSteps := 20000000) (disch := first | exact Zd | fail) only [ZN, simprocAttr, *]) : J m (jn i r fj s) enc := J.eq h j
theorem Jk {β : Type} {m m' : Option AV} {s : Option β} {enc : β → AV} {i : Nat} {ρ τ : Type} {r : ρ} {fj : τ → Option β} (j : J m' (jc i r fj s) enc) (h : m = m' := by conv => lhs; simp (maxSteps := 20000000) (disch := first | exact Zd | fail) only [ZN, simprocAttr, *]) : J m (jc i r fj s) enc := J.eq h j
theorem Jl  {β : Type} {m m' : Option AV} {enc : β → AV} {σ : Type} {body : (σ → Option β) → σ → Option β} {k : Nat} {s0 : σ} (j : J m' (cloop body k s0) enc) (h : m = m' := by conv => lhs; simp (maxSteps := 20000000) (disch := first | exact Zd | fail) only [ZN, simprocAttr, *]) : J m (cloop body k s0) enc := J.eq h j
theorem Jw {p : Prop} (h : p := by simp (maxSteps := 20000000) (disch := first | exact Zd | fail) only [ZG, simprocAttr, FN, *]) : p := h
theorem Zx {p : Prop} (h : p := by first | rfl | (simp only [LN, NN, NT]; done) | (simp (disch := first | exact Zd | fail) only [RR, simprocAttr, LN, NN, NT]; done) | (simp (disch := first | exact Zd | fail) only [RR, simprocAttr, LN, fm_app, NN, NT]; done) | (simp (maxSteps := 20000000) (disch := first | exact Zd | fail) only [ZZ, simprocAttr, kinV_at, kinVB_at, FN, *]; done) | (simp (maxSteps := 20000000) (disch := first | exact Zd | fail) only [ZZ, simprocAttr, kinV_at, kinVB_at, fm_app, FN, *]; done)) : p := h
theorem J.gi {β : Type} {m : Option AV} {s : Option β} {enc : β → AV} {c : Prop} {dd : Decidable c} {s1 : Option β} (j : J m (if c then s else s1) enc) : J m (if c then s else s1) enc := j
theorem J.gj {β : Type} {m : Option AV} {s : Option β} {enc : β → AV} {i : Nat} {ρ τ : Type} {r : ρ} {fj : τ → Option β} (j : J m (jn i r fj s) enc) : J m (jn i r fj s) enc := j
theorem J.gk {β : Type} {m : Option AV} {s : Option β} {enc : β → AV} {i : Nat} {ρ τ : Type} {r : ρ} {fj : τ → Option β} (j : J m (jc i r fj s) enc) : J m (jc i r fj s) enc := j
theorem J.gl {β : Type} {m : Option AV} {enc : β → AV} {σ : Type} {body : (σ → Option β) → σ → Option β} {k : Nat} {s0 : σ} (j : J m (cloop body k s0) enc) : J m (cloop body k s0) enc := j
theorem Wk {p : Prop} (h : p := by repeat' first | with_reducible exact J.none | with_reducible refine J.chk fun c => ?_ | (with_reducible refine J.atI fun r a b c d => ?_; try simp only [Int.toNat_natCast, LN, Nat.sub_zero, Nat.zero_mul, Nat.zero_add, Nat.add_zero, List.drop_zero, simprocAttr] at b c d) | (with_reducible refine J.atB fun r a b c d => ?_; try simp only [Int.toNat_natCast, LN, Nat.sub_zero, Nat.zero_mul, Nat.zero_add, Nat.add_zero, List.drop_zero, simprocAttr] at b c d) | (with_reducible refine J.atL fun r a b c d => ?_; try simp only [Int.toNat_natCast, LN, Nat.sub_zero, Nat.zero_mul, Nat.zero_add, Nat.add_zero, List.drop_zero, simprocAttr] at b c d) | (with_reducible refine J.atN c_T_Tensor_len fun r b c d => ?_; try simp only [Int.toNat_natCast, LN, Nat.sub_zero, Nat.zero_mul, Nat.zero_add, Nat.add_zero, List.drop_zero, simprocAttr] at b c d) | (with_reducible refine J.atS c_T_Tensor_len fun r a b c d => ?_; try simp only [Int.toNat_natCast, LN, Nat.sub_zero, Nat.zero_mul, Nat.zero_add, Nat.add_zero, List.drop_zero, simprocAttr] at b c d) | (with_reducible refine J.atN c_T_Setting_len fun r b c d => ?_; try simp only [Int.toNat_natCast, LN, Nat.sub_zero, Nat.zero_mul, Nat.zero_add, Nat.add_zero, List.drop_zero, simprocAttr] at b c d) | (with_reducible refine J.atS c_T_Setting_len fun r a b c d => ?_; try simp only [Int.toNat_natCast, LN, Nat.sub_zero, Nat.zero_mul, Nat.zero_add, Nat.add_zero, List.drop_zero, simprocAttr] at b c d) | (with_reducible refine J.atN c_T_Val_len fun r b c d => ?_; try simp only [Int.toNat_natCast, LN, Nat.sub_zero, Nat.zero_mul, Nat.zero_add, Nat.add_zero, List.drop_zero, simprocAttr] at b c d) | (with_reducible refine J.atS c_T_Val_len fun r a b c d => ?_; try simp only [Int.toNat_natCast, LN, Nat.sub_zero, Nat.zero_mul, Nat.zero_add, Nat.add_zero, List.drop_zero, simprocAttr] at b c d) | (with_reducible refine J.atN c_T_infer_ask_len fun r b c d => ?_; try simp only [Int.toNat_natCast, LN, Nat.sub_zero, Nat.zero_mul, Nat.zero_add, Nat.add_zero, List.drop_zero, simprocAttr] at b c d) | (with_reducible refine J.atS c_T_infer_ask_len fun r a b c d => ?_; try simp only [Int.toNat_natCast, LN, Nat.sub_zero, Nat.zero_mul, Nat.zero_add, Nat.add_zero, List.drop_zero, simprocAttr] at b c d) | (with_reducible refine J.atN c_T_mat_grid_len fun r b c d => ?_; try simp only [Int.toNat_natCast, LN, Nat.sub_zero, Nat.zero_mul, Nat.zero_add, Nat.add_zero, List.drop_zero, simprocAttr] at b c d) | (with_reducible refine J.atS c_T_mat_grid_len fun r a b c d => ?_; try simp only [Int.toNat_natCast, LN, Nat.sub_zero, Nat.zero_mul, Nat.zero_add, Nat.add_zero, List.drop_zero, simprocAttr] at b c d) | (with_reducible refine J.atN c_T_mat_line_uint32_len fun r b c d => ?_; try simp only [Int.toNat_natCast, LN, Nat.sub_zero, Nat.zero_mul, Nat.zero_add, Nat.add_zero, List.drop_zero, simprocAttr] at b c d) | (with_reducible refine J.atS c_T_mat_line_uint32_len fun r a b c d => ?_; try simp only [Int.toNat_natCast, LN, Nat.sub_zero, Nat.zero_mul, Nat.zero_add, Nat.add_zero, List.drop_zero, simprocAttr] at b c d) | (with_reducible refine J.atN c_T_soft_number_len fun r b c d => ?_; try simp only [Int.toNat_natCast, LN, Nat.sub_zero, Nat.zero_mul, Nat.zero_add, Nat.add_zero, List.drop_zero, simprocAttr] at b c d) | (with_reducible refine J.atS c_T_soft_number_len fun r a b c d => ?_; try simp only [Int.toNat_natCast, LN, Nat.sub_zero, Nat.zero_mul, Nat.zero_add, Nat.add_zero, List.drop_zero, simprocAttr] at b c d) | (with_reducible refine J.atN c_T_ref12_job_len fun r b c d => ?_; try simp only [Int.toNat_natCast, LN, Nat.sub_zero, Nat.zero_mul, Nat.zero_add, Nat.add_zero, List.drop_zero, simprocAttr] at b c d) | (with_reducible refine J.atS c_T_ref12_job_len fun r a b c d => ?_; try simp only [Int.toNat_natCast, LN, Nat.sub_zero, Nat.zero_mul, Nat.zero_add, Nat.add_zero, List.drop_zero, simprocAttr] at b c d) | (with_reducible refine J.atM (c := c_T_Tensor) fun r a b c d => ?_; try simp only [Int.toNat_natCast, LN, Nat.sub_zero, Nat.zero_mul, Nat.zero_add, Nat.add_zero, List.drop_zero, simprocAttr] at b c d) | (with_reducible refine J.atM (c := c_T_Setting) fun r a b c d => ?_; try simp only [Int.toNat_natCast, LN, Nat.sub_zero, Nat.zero_mul, Nat.zero_add, Nat.add_zero, List.drop_zero, simprocAttr] at b c d) | (with_reducible refine J.atM (c := c_T_Val) fun r a b c d => ?_; try simp only [Int.toNat_natCast, LN, Nat.sub_zero, Nat.zero_mul, Nat.zero_add, Nat.add_zero, List.drop_zero, simprocAttr] at b c d) | (with_reducible refine J.atM (c := c_T_infer_ask) fun r a b c d => ?_; try simp only [Int.toNat_natCast, LN, Nat.sub_zero, Nat.zero_mul, Nat.zero_add, Nat.add_zero, List.drop_zero, simprocAttr] at b c d) | (with_reducible refine J.atM (c := c_T_mat_grid) fun r a b c d => ?_; try simp only [Int.toNat_natCast, LN, Nat.sub_zero, Nat.zero_mul, Nat.zero_add, Nat.add_zero, List.drop_zero, simprocAttr] at b c d) | (with_reducible refine J.atM (c := c_T_mat_line_uint32) fun r a b c d => ?_; try simp only [Int.toNat_natCast, LN, Nat.sub_zero, Nat.zero_mul, Nat.zero_add, Nat.add_zero, List.drop_zero, simprocAttr] at b c d) | (with_reducible refine J.atM (c := c_T_soft_number) fun r a b c d => ?_; try simp only [Int.toNat_natCast, LN, Nat.sub_zero, Nat.zero_mul, Nat.zero_add, Nat.add_zero, List.drop_zero, simprocAttr] at b c d) | (with_reducible refine J.atM (c := c_T_ref12_job) fun r a b c d => ?_; try simp only [Int.toNat_natCast, LN, Nat.sub_zero, Nat.zero_mul, Nat.zero_add, Nat.add_zero, List.drop_zero, simprocAttr] at b c d) | with_reducible refine J.sat fun r a => ?_ | ((with_reducible refine J.bind fun x h => ?_); (first | with_reducible have e := H1.ap h | with_reducible have e := H2.ap h | with_reducible have e := H3.ap h | with_reducible have e := H4.ap h | with_reducible have e := H5.ap h | with_reducible have e := H6.ap h | with_reducible have e := H7.ap h | with_reducible have e := H8.ap h | with_reducible have e := H9.ap h | with_reducible have e := H10.ap h); try simp only [NN, NT, LN, simprocAttr, DT] at e) | (with_reducible refine J.some ?_; exact Jw) | (with_reducible refine J.gi ?_; refine Jg ?_; first | with_reducible refine J.iteLt (fun h k => ?_) (fun h k => ?_) | with_reducible refine J.iteLe (fun h k => ?_) (fun h k => ?_) | with_reducible refine J.iteEq (fun h k l => ?_) (fun h => ?_) | with_reducible refine J.iteB (fun h => ?_) (fun h => ?_) | with_reducible refine J.iteD (fun h => ?_) (fun h => ?_)) | (first | with_reducible refine J.hd (W1.eq_1 ..) ?_ | with_reducible refine J.hd (W2.eq_1 ..) ?_ | with_reducible refine J.hd (W3.eq_1 ..) ?_) | (with_reducible refine J.gj ?_; first | (first | (refine J.joinT j1 rfl (by intro; conv => lhs; simp (disch := first | exact Zd | fail) only [j1, ZN, simprocAttr]) (by intro; conv => lhs; simp (disch := first | exact Zd | fail) only [j1, ZN, simprocAttr]) (fun t => J.hd (k1.eq_1 ..) ?_) (fun a1 => ?_); all_goals try simp only [Prod.forall, unit_all] at a1) | (refine J.joinT j2 rfl (by intro; conv => lhs; simp (disch := first | exact Zd | fail) only [j2, ZN, simprocAttr]) (by intro; conv => lhs; simp (disch := first | exact Zd | fail) only [j2, ZN, simprocAttr]) (fun t => J.hd (k2.eq_1 ..) ?_) (fun a2 => ?_); all_goals try simp only [Prod.forall, unit_all] at a2) | (refine J.joinT j3 rfl (by intro; conv => lhs; simp (disch := first | exact Zd | fail) only [j3, ZN, simprocAttr]) (by intro; conv => lhs; simp (disch := first | exact Zd | fail) only [j3, ZN, simprocAttr]) (fun t => J.hd (k3.eq_1 ..) ?_) (fun a3 => ?_); all_goals try simp only [Prod.forall, unit_all] at a3) | (refine J.joinT j4 rfl (by intro; conv => lhs; simp (disch := first | exact Zd | fail) only [j4, ZN, simprocAttr]) (by intro; conv => lhs; simp (disch := first | exact Zd | fail) only [j4, ZN, simprocAttr]) (fun t => J.hd (k4.eq_1 ..) ?_) (fun a4 => ?_); all_goals try simp only [Prod.forall, unit_all] at a4) | (refine J.joinT j5 rfl (by intro; conv => lhs; simp (disch := first | exact Zd | fail) only [j5, ZN, simprocAttr]) (by intro; conv => lhs; simp (disch := first | exact Zd | fail) only [j5, ZN, simprocAttr]) (fun t => J.hd (k5.eq_1 ..) ?_) (fun a5 => ?_); all_goals try simp only [Prod.forall, unit_all] at a5) | refine J.sqj ?_ | refine J.rqj ?_) | (refine Jn ?_; first | (refine J.joinT j1 rfl (by intro; conv => lhs; simp (disch := first | exact Zd | fail) only [j1, ZN, simprocAttr]) (by intro; conv => lhs; simp (disch := first | exact Zd | fail) only [j1, ZN, simprocAttr]) (fun t => J.hd (k1.eq_1 ..) ?_) (fun a1 => ?_); all_goals try simp only [Prod.forall, unit_all] at a1) | (refine J.joinT j2 rfl (by intro; conv => lhs; simp (disch := first | exact Zd | fail) only [j2, ZN, simprocAttr]) (by intro; conv => lhs; simp (disch := first | exact Zd | fail) only [j2, ZN, simprocAttr]) (fun t => J.hd (k2.eq_1 ..) ?_) (fun a2 => ?_); all_goals try simp only [Prod.forall, unit_all] at a2) | (refine J.joinT j3 rfl (by intro; conv => lhs; simp (disch := first | exact Zd | fail) only [j3, ZN, simprocAttr]) (by intro; conv => lhs; simp (disch := first | exact Zd | fail) only [j3, ZN, simprocAttr]) (fun t => J.hd (k3.eq_1 ..) ?_) (fun a3 => ?_); all_goals try simp only [Prod.forall, unit_all] at a3) | (refine J.joinT j4 rfl (by intro; conv => lhs; simp (disch := first | exact Zd | fail) only [j4, ZN, simprocAttr]) (by intro; conv => lhs; simp (disch := first | exact Zd | fail) only [j4, ZN, simprocAttr]) (fun t => J.hd (k4.eq_1 ..) ?_) (fun a4 => ?_); all_goals try simp only [Prod.forall, unit_all] at a4) | (refine J.joinT j5 rfl (by intro; conv => lhs; simp (disch := first | exact Zd | fail) only [j5, ZN, simprocAttr]) (by intro; conv => lhs; simp (disch := first | exact Zd | fail) only [j5, ZN, simprocAttr]) (fun t => J.hd (k5.eq_1 ..) ?_) (fun a5 => ?_); all_goals try simp only [Prod.forall, unit_all] at a5) | refine J.sqj ?_ | refine J.rqj ?_)) | (with_reducible refine J.gl ?_; first | (first | refine J.loopT m1 rfl (by intro; conv => lhs; simp (disch := first | exact Zd | fail) only [m1, ZN, simprocAttr]) (by intro; conv => lhs; simp (disch := first | exact Zd | fail) only [m1, ZN, simprocAttr]) Zx Zx (fun next k n s => J.hd (L1.eq_1 ..) ?_) | refine J.loopT m2 rfl (by intro; conv => lhs; simp (disch := first | exact Zd | fail) only [m2, ZN, simprocAttr]) (by intro; conv => lhs; simp (disch := first | exact Zd | fail) only [m2, ZN, simprocAttr]) Zx Zx (fun next k n s => J.hd (L2.eq_1 ..) ?_) | refine J.loopT m3 rfl (by intro; conv => lhs; simp (disch := first | exact Zd | fail) only [m3, ZN, simprocAttr]) (by intro; conv => lhs; simp (disch := first | exact Zd | fail) only [m3, ZN, simprocAttr]) Zx Zx (fun next k n s => J.hd (L3.eq_1 ..) ?_) | refine J.sql ?_ | refine J.rql ?_) | (refine Jl ?_; first | refine J.loopT m1 rfl (by intro; conv => lhs; simp (disch := first | exact Zd | fail) only [m1, ZN, simprocAttr]) (by intro; conv => lhs; simp (disch := first | exact Zd | fail) only [m1, ZN, simprocAttr]) Zx Zx (fun next k n s => J.hd (L1.eq_1 ..) ?_) | refine J.loopT m2 rfl (by intro; conv => lhs; simp (disch := first | exact Zd | fail) only [m2, ZN, simprocAttr]) (by intro; conv => lhs; simp (disch := first | exact Zd | fail) only [m2, ZN, simprocAttr]) Zx Zx (fun next k n s => J.hd (L2.eq_1 ..) ?_) | refine J.loopT m3 rfl (by intro; conv => lhs; simp (disch := first | exact Zd | fail) only [m3, ZN, simprocAttr]) (by intro; conv => lhs; simp (disch := first | exact Zd | fail) only [m3, ZN, simprocAttr]) Zx Zx (fun next k n s => J.hd (L3.eq_1 ..) ?_) | refine J.sql ?_ | refine J.rql ?_)) | (refine Jg ?_; first | ((with_reducible apply a1) <;> first | exact () | exact Zx) | ((with_reducible apply a2) <;> first | exact () | exact Zx) | ((with_reducible apply a3) <;> first | exact () | exact Zx) | ((with_reducible apply a4) <;> first | exact () | exact Zx) | ((with_reducible apply a5) <;> first | exact () | exact Zx) | ((with_reducible apply b1) <;> first | exact () | exact Zx) | ((with_reducible apply b2) <;> first | exact () | exact Zx) | ((with_reducible apply b3) <;> first | exact () | exact Zx) | ((with_reducible apply b4) <;> first | exact () | exact Zx) | ((with_reducible apply b5) <;> first | exact () | exact Zx) | refine J.nextT (by assumption) Zx Zx)) : p := h
open Aw (d18)
def d18_at := by have h := tabL Aw.d18.eq_1; simp only [AllAt, Nat.zero_add, Nat.reduceAdd] at h; exact h
theorem i18 : finfo Tryz.prog 18 d18 = some ⟨bodyOf Tryz.f18, [.tmp 2], [4]⟩ := finfo_at Tryz.func18 rfl (by kernel_rfl) (by kernel_rfl)
def e18 : Bool → AV := fun r => .v (.bool r)
set_option maxHeartbeats 20000000 in
theorem w18 (cp : CallP) (fu : Nat) (x1 : Int)  : J (go Tryz.prog noC cp noI 0 [] d18 fu (fin Tryz.prog [.tmp 2] [4]) (bodyOf Tryz.f18) (initE 0 [.v (.int .i64 x1)]) [] []) (mat_Has fu x1) e18 := by
 unfold mat_Has e18
 have da := d18_at
 conv => arg 1; simp only [bodyOf, Tryz.f18]
 have z0 := d18_at
 exact Wk
theorem ok18 (fu : Nat) (x1 : Int) (r) (h : mat_Has fu x1 = some r) : PureOK Tryz.prog 18 [.v (.int .i64 x1)] (e18 r) := pureT mixed [] (ids := []) rfl (by decide) i18 (C := noC) (ci := fun cp => noI) (fun cp ok => noI_ok) (fun cp H => w18 cp fu x1 ) h
open Aw (d78)
def d78_at := by have h := tabL Aw.d78.eq_1; simp only [AllAt, Nat.zero_add, Nat.reduceAdd] at h; exact h
theorem i78 : finfo Tryz.prog 78 d78 = some ⟨bodyOf Tryz.f78, [.tmp 2], [3]⟩ := finfo_at Tryz.func78 rfl (by kernel_rfl) (by kernel_rfl)
def e78 : Int → AV := fun r => .v (.int .i64 r)
set_option maxHeartbeats 20000000 in
theorem w78 (cp : CallP) (fu : Nat) (x1 : Int)  : J (go Tryz.prog noC cp noI 0 [] d78 fu (fin Tryz.prog [.tmp 2] [3]) (bodyOf Tryz.f78) (initE 0 [.v (.int .i64 x1)]) [] []) (tens_Width fu x1) e78 := by
 unfold tens_Width e78
 have da := d78_at
 conv => arg 1; simp only [bodyOf, Tryz.f78]
 have z0 := d78_at
 exact Wk
theorem ok78 (fu : Nat) (x1 : Int) (r) (h : tens_Width fu x1 = some r) : PureOK Tryz.prog 78 [.v (.int .i64 x1)] (e78 r) := pureT mixed [] (ids := []) rfl (by decide) i78 (C := noC) (ci := fun cp => noI) (fun cp ok => noI_ok) (fun cp H => w78 cp fu x1 ) h
open Aw (d37)
def d37_at := by have h := tabL Aw.d37.eq_1; simp only [AllAt, Nat.zero_add, Nat.reduceAdd] at h; exact h
theorem i37 : finfo Tryz.prog 37 d37 = some ⟨bodyOf Tryz.f37, [.tmp 2], [4]⟩ := finfo_at Tryz.func37 rfl (by kernel_rfl) (by kernel_rfl)
def e37 : Bool → AV := fun r => .v (.bool r)
structure K78 (fu : Nat) (cp : CallP) : Prop where
 ap : ∀ {a0 : Int} {r}, tens_Width fu a0 = some r → cp 78 [.v (.int .i64 a0)] = some (.v (.int .i64 r))
noncomputable def C78 (fu : Nat) : Cm Tryz.prog Int Int := ⟨78, fun t => [.v (.int .i64 t)], fun t => tens_Width fu t, e78, fun t b h => ok78 fu t  b h, Zi⟩
theorem u78 {fu : Nat} {cp : CallP} (H : Hit cp (C78 fu).ct) : K78 fu cp := ⟨fun {a0 r} h => (C78 fu).at H a0 r h⟩
set_option maxHeartbeats 20000000 in
theorem w37 (cp : CallP) (fu : Nat) (x1 : Int) (H1 : K78 fu cp) : J (go Tryz.prog noC cp noI 0 [] d37 fu (fin Tryz.prog [.tmp 2] [4]) (bodyOf Tryz.f37) (initE 0 [.v (.int .i64 x1)]) [] []) (tens_known fu x1) e37 := by
 unfold tens_known e37
 have da := d37_at
 conv => arg 1; simp only [bodyOf, Tryz.f37]
 have z0 := d37_at
 exact Wk
theorem ok37 (fu : Nat) (x1 : Int) (r) (h : tens_known fu x1 = some r) : PureOK Tryz.prog 37 [.v (.int .i64 x1)] (e37 r) := pureT mixed [(C78 fu).ct] (ids := [78]) rfl (by decide) i37 (C := noC) (ci := fun cp => noI) (fun cp ok => noI_ok) (fun cp H => w37 cp fu x1 (u78 H.1)) h
open Aw (d102)
def d102_at := by have h := tabL Aw.d102.eq_1; simp only [AllAt, Nat.zero_add, Nat.reduceAdd] at h; exact h
theorem i102 : finfo Tryz.prog 102 d102 = some ⟨bodyOf Tryz.f102, [.tmp 4], [3]⟩ := finfo_at Tryz.func102 rfl (by kernel_rfl) (by kernel_rfl)
def e102 : Int → AV := fun r => .v (.int .i64 r)
set_option maxHeartbeats 20000000 in
theorem w102 (cp : CallP) (fu : Nat) (x1 : List Int) (p1 : Int → Option Bool) (fv_p1 : FuncId) (ca_p1 : List AV) (cap_p1 : Capt ca_p1) (hp_p1 : ∀ (y0 : Int) r, p1 y0 = some r → cp fv_p1 ((.v (.int .i64 y0)) :: ca_p1) = some (.v (.bool r))) : J (go Tryz.prog noC cp noI 0 [] d102 fu (fin Tryz.prog [.tmp 4] [3]) (bodyOf Tryz.f102) (initE 0 [.arr x1.length (lm (ik .i64) x1), .fn fv_p1 [] ca_p1]) [] []) (slices_IndexFunc_int fu x1 p1) e102 := by
 unfold slices_IndexFunc_int e102
 have da := d102_at
 have c4_p1 := fun g => (cap_p1.1 g).1; have c3_p1 := fun g => (cap_p1.1 g).2.1; have b4_p1 := fun g => (cap_p1.1 g).2.2.1; have b3_p1 := fun g => (cap_p1.1 g).2.2.2; have nm_p1 := cap_p1.2
 conv => arg 1; simp (disch := first | exact Zd | fail) only [bodyOf, Tryz.f102, ZZ, d102_at, simprocAttr, c4_p1, c3_p1, b4_p1, b3_p1, nm_p1]
 refine J.eq go_seq ?_
 conv => arg 1; simp (disch := first | exact Zd | fail) only [ZZ, d102_at, simprocAttr, c4_p1, c3_p1, b4_p1, b3_p1, nm_p1]
 unfold slices_IndexFunc_int.W1
 refine J.loop (fun (s : Int) => ([(0, .arr x1.length (lm (ik .i64) x1)), (1, .fn fv_p1 [] ca_p1), (7, .v (.int .i64 (x1.length : Int))), (8, .v (.int .i64 s))], [])) (fun next s => slices_IndexFunc_int.L1 fu p1 x1 next s) (s0 := 0) ?_ ?_ ?_
 ·exact Ze
 ·exact Zh
 rintro nx1 k1 hn1 x4
 show J _ (slices_IndexFunc_int.L1 fu p1 x1 nx1 x4) _
 unfold slices_IndexFunc_int.L1
 conv => arg 1; simp (disch := first | exact Zd | fail) only [ZZ, d102_at, simprocAttr, c4_p1, c3_p1, b4_p1, b3_p1, nm_p1]
 refine J.eq go_seq ?_
 conv => arg 1; simp (disch := first | exact Zd | fail) only [ZZ, d102_at, simprocAttr, c4_p1, c3_p1, b4_p1, b3_p1, nm_p1]
 refine J.ite (fun h1 => ?_) (fun h1 => ?_)
 ·have h1' := decide_eq_true h1
  have h1'' : decide ((x1.length : Int) ≤ x4) = false := decide_eq_false (by omega)
  conv => arg 1; simp (disch := first | exact Zd | fail) only [ZZ, d102_at, simprocAttr, c4_p1, c3_p1, b4_p1, b3_p1, nm_p1, h1'', h1']
  refine J.eq ret_seq ?_
  refine J.eq go_seq ?_
  refine J.at fun x7 h2 h3 h4 => ?_
  refine J.bind fun x8 h5 => ?_
  have e_h5 := hp_p1 _ _ h5
  try simp only [NN, NT, LN, simprocAttr, DT] at e_h5
  conv => arg 1; simp (disch := first | exact Zd | fail) only [ZZ, d102_at, simprocAttr, c4_p1, c3_p1, b4_p1, b3_p1, nm_p1, h1'', h1', lm_ik h4, e_h5]
  refine J.ite (fun h6 => ?_) (fun h6 => ?_)
  ·have h6' : x8 = true := h6
   refine J.some ?_
   simp (maxSteps := 20000000) (disch := first | exact Zd | fail) only [ZZ, d102_at, simprocAttr, c4_p1, c3_p1, b4_p1, b3_p1, nm_p1, h1'', h1', lm_ik h4, e_h5, h6', FN]
  ·have h6' : x8 = false := Bool.eq_false_iff.2 h6
   conv => arg 1; simp (disch := first | exact Zd | fail) only [ZZ, d102_at, simprocAttr, c4_p1, c3_p1, b4_p1, b3_p1, nm_p1, h1'', h1', lm_ik h4, e_h5, h6']
   refine J.eq ret_seq ?_
   conv => arg 1; simp (disch := first | exact Zd | fail) only [ZZ, d102_at, simprocAttr, c4_p1, c3_p1, b4_p1, b3_p1, nm_p1, h1'', h1', lm_ik h4, e_h5, h6']
   refine J.next (s := wk .i64 (x4 + 1)) hn1 ?_ ?_
   ·exact Ze
   ·exact Zh
 ·have h1' := decide_eq_false h1
  have h1'' : decide ((x1.length : Int) ≤ x4) = true := decide_eq_true (by omega)
  conv => arg 1; simp (disch := first | exact Zd | fail) only [ZZ, d102_at, simprocAttr, c4_p1, c3_p1, b4_p1, b3_p1, nm_p1, h1'', h1']
  refine J.eq ret_seq ?_
  refine J.some ?_
  simp (maxSteps := 20000000) (disch := first | exact Zd | fail) only [ZZ, d102_at, simprocAttr, c4_p1, c3_p1, b4_p1, b3_p1, nm_p1, h1'', h1', FN]
noncomputable def t102 (fu : Nat) (x1 : List Int) (p1 : Int → Option Bool) (fv_p1 : FuncId) (ca_p1 : List AV) : CallP := orE fv_p1 (mkC (fun (t : Int) => ((.v (.int .i64 t)) :: ca_p1 : List AV)) (fun t => p1 t) (fun r => .v (.bool r))) (noP)
theorem t102_ok (fu : Nat) (x1 : List Int) (p1 : Int → Option Bool) (fv_p1 : FuncId) (ca_p1 : List AV) (cap_p1 : Capt ca_p1) (hp_p1 : ∀ (y0 : Int) r, p1 y0 = some r → PureOK Tryz.prog fv_p1 ((.v (.int .i64 y0)) :: ca_p1) (.v (.bool r))) : CpOK Tryz.prog (t102 fu x1 p1 fv_p1 ca_p1) := orE_ok (noP_ok) (mkC_ok (fun t b h => hp_p1 t b h))
theorem ok102 (fu : Nat) (x1 : List Int) (p1 : Int → Option Bool) (fv_p1 : FuncId) (ca_p1 : List AV) (cap_p1 : Capt ca_p1) (hp_p1 : ∀ (y0 : Int) r, p1 y0 = some r → PureOK Tryz.prog fv_p1 ((.v (.int .i64 y0)) :: ca_p1) (.v (.bool r))) (r) (h : slices_IndexFunc_int fu x1 p1 = some r) : PureOK Tryz.prog 102 [.arr x1.length (lm (ik .i64) x1), .fn fv_p1 [] ca_p1] (e102 r) :=
  pure_J mixed (cp := t102 fu x1 p1 fv_p1 ca_p1) (t102_ok fu x1 p1 fv_p1 ca_p1 cap_p1 hp_p1) noI_ok i102 (w102 _ fu x1 p1 fv_p1 ca_p1 cap_p1 (fun y0 r h => orE_hit (mkC_at (a := y0) (by intro a b h; first | (exact rfl) | (simp only [INJ, IJ] at h; first | exact h | (simp_all [Prod.ext_iff]) )) h)) ) h
open Aw (d45)
def d45_at := by have h := tabL Aw.d45.eq_1; simp only [AllAt, Nat.zero_add, Nat.reduceAdd] at h; exact h
theorem i45 : finfo Tryz.prog 45 d45 = some ⟨bodyOf Tryz.f45, [.tmp 4], [4]⟩ := finfo_at Tryz.func45 rfl (by kernel_rfl) (by kernel_rfl)
def e45 : Bool → AV := fun r => .v (.bool r)
set_option maxHeartbeats 20000000 in
theorem w45 (cp : CallP) (fu : Nat) (x1 : List Int) (p1 : Int → Option Bool) (fv_p1 : FuncId) (ca_p1 : List AV) (cap_p1 : Capt ca_p1) (hp_p1 : ∀ (y0 : Int) r, p1 y0 = some r → cp fv_p1 ((.v (.int .i64 y0)) :: ca_p1) = some (.v (.bool r))) (H102_0 : ∀ (a0 : List Int) r, slices_IndexFunc_int fu a0 p1 = some r → cp 102 [.arr a0.length (lm (ik .i64) a0), .fn fv_p1 [] ca_p1] = some (.v (.int .i64 r))) : J (go Tryz.prog noC cp noI 0 [] d45 fu (fin Tryz.prog [.tmp 4] [4]) (bodyOf Tryz.f45) (initE 0 [.arr x1.length (lm (ik .i64) x1), .fn fv_p1 [] ca_p1]) [] []) (slices_ContainsFunc_int fu x1 p1) e45 := by
 unfold slices_ContainsFunc_int e45
 have da := d45_at
 have c4_p1 := fun g => (cap_p1.1 g).1; have c3_p1 := fun g => (cap_p1.1 g).2.1; have b4_p1 := fun g => (cap_p1.1 g).2.2.1; have b3_p1 := fun g => (cap_p1.1 g).2.2.2; have nm_p1 := cap_p1.2
 refine J.bind fun x2 h1 => ?_
 have e_h1 := H102_0 _ _ h1
 try simp only [NN, NT, LN, simprocAttr, DT] at e_h1
 refine J.some ?_
 simp (maxSteps := 20000000) (disch := first | exact Zd | fail) only [bodyOf, Tryz.f45, ZZ, d45_at, simprocAttr, c4_p1, c3_p1, b4_p1, b3_p1, nm_p1, e_h1, FN]
noncomputable def t45 (fu : Nat) (x1 : List Int) (p1 : Int → Option Bool) (fv_p1 : FuncId) (ca_p1 : List AV) : CallP := orE 102 (mkC (fun (t : List Int) => ([.arr t.length (lm (ik .i64) t), .fn fv_p1 [] ca_p1] : List AV)) (fun t => slices_IndexFunc_int fu t p1) e102) (orE fv_p1 (mkC (fun (t : Int) => ((.v (.int .i64 t)) :: ca_p1 : List AV)) (fun t => p1 t) (fun r => .v (.bool r))) (noP))
theorem t45_ok (fu : Nat) (x1 : List Int) (p1 : Int → Option Bool) (fv_p1 : FuncId) (ca_p1 : List AV) (cap_p1 : Capt ca_p1) (hp_p1 : ∀ (y0 : Int) r, p1 y0 = some r → PureOK Tryz.prog fv_p1 ((.v (.int .i64 y0)) :: ca_p1) (.v (.bool r))) : CpOK Tryz.prog (t45 fu x1 p1 fv_p1 ca_p1) := orE_ok (orE_ok (noP_ok) (mkC_ok (fun t b h => hp_p1 t b h))) (mkC_ok (fun t b h => ok102 fu t p1 fv_p1 ca_p1 cap_p1 hp_p1 b h))
theorem ok45 (fu : Nat) (x1 : List Int) (p1 : Int → Option Bool) (fv_p1 : FuncId) (ca_p1 : List AV) (cap_p1 : Capt ca_p1) (hp_p1 : ∀ (y0 : Int) r, p1 y0 = some r → PureOK Tryz.prog fv_p1 ((.v (.int .i64 y0)) :: ca_p1) (.v (.bool r))) (r) (h : slices_ContainsFunc_int fu x1 p1 = some r) : PureOK Tryz.prog 45 [.arr x1.length (lm (ik .i64) x1), .fn fv_p1 [] ca_p1] (e45 r) :=
  pure_J mixed (cp := t45 fu x1 p1 fv_p1 ca_p1) (t45_ok fu x1 p1 fv_p1 ca_p1 cap_p1 hp_p1) noI_ok i45 (w45 _ fu x1 p1 fv_p1 ca_p1 cap_p1 (fun y0 r h => orE_skip (fun hfv => mkC_none (by intro t h; simp at h)) (orE_hit (mkC_at (a := y0) (by intro a b h; first | (exact rfl) | (simp only [INJ, IJ] at h; first | exact h | (simp_all [Prod.ext_iff]) )) h))) (fun a0 r h => orE_hit (mkC_at (a := a0) (by intro a b h; first | (exact rfl) | (simp only [INJ, IJ] at h; first | exact h | (simp_all [Prod.ext_iff]) )) h))) h
open Aw (d46)
def d46_at := by have h := tabL Aw.d46.eq_1; simp only [AllAt, Nat.zero_add, Nat.reduceAdd] at h; exact h
theorem i46 : finfo Tryz.prog 46 d46 = some ⟨bodyOf Tryz.f46, [.tmp 2], [4]⟩ := finfo_at Tryz.func46 rfl (by kernel_rfl) (by kernel_rfl)
def e46 : Bool → AV := fun r => .v (.bool r)
set_option maxHeartbeats 20000000 in
theorem w46 (cp : CallP) (fu : Nat) (x1 : Int)  : J (go Tryz.prog noC cp noI 0 [] d46 fu (fin Tryz.prog [.tmp 2] [4]) (bodyOf Tryz.f46) (initE 0 [.v (.int .i64 x1)]) [] []) (shape_Size_1 fu x1) e46 := by
 unfold shape_Size_1 e46
 have da := d46_at
 conv => arg 1; simp only [bodyOf, Tryz.f46]
 have z0 := d46_at
 exact Wk
theorem ok46 (fu : Nat) (x1 : Int) (r) (h : shape_Size_1 fu x1 = some r) : PureOK Tryz.prog 46 [.v (.int .i64 x1)] (e46 r) := pureT mixed [] (ids := []) rfl (by decide) i46 (C := noC) (ci := fun cp => noI) (fun cp ok => noI_ok) (fun cp H => w46 cp fu x1 ) h
open Aw (d47)
def d47_at := by have h := tabL Aw.d47.eq_1; simp only [AllAt, Nat.zero_add, Nat.reduceAdd] at h; exact h
theorem i47 : finfo Tryz.prog 47 d47 = some ⟨bodyOf Tryz.f47, [.tmp 2], [4]⟩ := finfo_at Tryz.func47 rfl (by kernel_rfl) (by kernel_rfl)
def e47 : Bool → AV := fun r => .v (.bool r)
set_option maxHeartbeats 20000000 in
theorem w47 (cp : CallP) (fu : Nat) (x1 : Int)  : J (go Tryz.prog noC cp noI 0 [] d47 fu (fin Tryz.prog [.tmp 2] [4]) (bodyOf Tryz.f47) (initE 0 [.v (.int .i64 x1)]) [] []) (shape_Size_2 fu x1) e47 := by
 unfold shape_Size_2 e47
 have da := d47_at
 conv => arg 1; simp only [bodyOf, Tryz.f47]
 have z0 := d47_at
 exact Wk
theorem ok47 (fu : Nat) (x1 : Int) (r) (h : shape_Size_2 fu x1 = some r) : PureOK Tryz.prog 47 [.v (.int .i64 x1)] (e47 r) := pureT mixed [] (ids := []) rfl (by decide) i47 (C := noC) (ci := fun cp => noI) (fun cp ok => noI_ok) (fun cp H => w47 cp fu x1 ) h
open Aw (d103)
def d103_at := by have h := tabL Aw.d103.eq_1; simp only [AllAt, Nat.zero_add, Nat.reduceAdd] at h; exact h
theorem i103 : finfo Tryz.prog 103 d103 = some ⟨bodyOf Tryz.f103, [.tmp 4], [3]⟩ := finfo_at Tryz.func103 rfl (by kernel_rfl) (by kernel_rfl)
def e103 : Int → AV := fun r => .v (.int .i64 r)
def slices_Index_int.m1 : LJ 1 4 Unit Int := ⟨fun r s e => [(0, er e 0), (1, er e 1), (7, er e 7), (8, .v (.int .i64 s))], fun r s h => []⟩
set_option maxHeartbeats 20000000 in
open slices_Index_int in
theorem w103 (cp : CallP) (fu : Nat) (x1 : List Int) (x2 : Int)  : J (go Tryz.prog noC cp noI 0 [] d103 fu (fin Tryz.prog [.tmp 4] [3]) (bodyOf Tryz.f103) (initE 0 [.arr x1.length (lm (ik .i64) x1), .v (.int .i64 x2)]) [] []) (slices_Index_int fu x1 x2) e103 := by
 unfold slices_Index_int e103
 have da := d103_at
 conv => arg 1; simp only [bodyOf, Tryz.f103]
 have z0 := d103_at
 exact Wk
theorem ok103 (fu : Nat) (x1 : List Int) (x2 : Int) (r) (h : slices_Index_int fu x1 x2 = some r) : PureOK Tryz.prog 103 [.arr x1.length (lm (ik .i64) x1), .v (.int .i64 x2)] (e103 r) := pureT mixed [] (ids := []) rfl (by decide) i103 (C := noC) (ci := fun cp => noI) (fun cp ok => noI_ok) (fun cp H => w103 cp fu x1 x2 ) h
open Aw (d48)
def d48_at := by have h := tabL Aw.d48.eq_1; simp only [AllAt, Nat.zero_add, Nat.reduceAdd] at h; exact h
theorem i48 : finfo Tryz.prog 48 d48 = some ⟨bodyOf Tryz.f48, [.tmp 4], [4]⟩ := finfo_at Tryz.func48 rfl (by kernel_rfl) (by kernel_rfl)
def e48 : Bool → AV := fun r => .v (.bool r)
structure K103 (fu : Nat) (cp : CallP) : Prop where
 ap : ∀ {a0 : List Int} {a1 : Int} {r}, slices_Index_int fu a0 a1 = some r → cp 103 [.arr a0.length (lm (ik .i64) a0), .v (.int .i64 a1)] = some (.v (.int .i64 r))
noncomputable def C103 (fu : Nat) : Cm Tryz.prog ((List Int) × Int) Int := ⟨103, fun t => [.arr t.1.length (lm (ik .i64) t.1), .v (.int .i64 t.2)], fun t => slices_Index_int fu t.1 t.2, e103, fun t b h => ok103 fu t.1 t.2  b h, Zi⟩
theorem u103 {fu : Nat} {cp : CallP} (H : Hit cp (C103 fu).ct) : K103 fu cp := ⟨fun {a0 a1 r} h => (C103 fu).at H (a0, a1) r h⟩
set_option maxHeartbeats 20000000 in
theorem w48 (cp : CallP) (fu : Nat) (x1 : List Int) (x2 : Int) (H1 : K103 fu cp) : J (go Tryz.prog noC cp noI 0 [] d48 fu (fin Tryz.prog [.tmp 4] [4]) (bodyOf Tryz.f48) (initE 0 [.arr x1.length (lm (ik .i64) x1), .v (.int .i64 x2)]) [] []) (slices_Contains_int fu x1 x2) e48 := by
 unfold slices_Contains_int e48
 have da := d48_at
 conv => arg 1; simp only [bodyOf, Tryz.f48]
 have z0 := d48_at
 exact Wk
theorem ok48 (fu : Nat) (x1 : List Int) (x2 : Int) (r) (h : slices_Contains_int fu x1 x2 = some r) : PureOK Tryz.prog 48 [.arr x1.length (lm (ik .i64) x1), .v (.int .i64 x2)] (e48 r) := pureT mixed [(C103 fu).ct] (ids := [103]) rfl (by decide) i48 (C := noC) (ci := fun cp => noI) (fun cp ok => noI_ok) (fun cp H => w48 cp fu x1 x2 (u103 H.1)) h
open Aw (d27)
def d27_at := by have h := tabL Aw.d27.eq_1; simp only [AllAt, Nat.zero_add, Nat.reduceAdd] at h; exact h
theorem i27 : finfo Tryz.prog 27 d27 = some ⟨bodyOf Tryz.f27, [.tmp 2, .tmp 3], [3, 35]⟩ := finfo_at Tryz.func27 rfl (by kernel_rfl) (by kernel_rfl)
def e27 : (Int × Int) → AV := fun r => .tuple [.v (.int .i64 r.1), .v (.int .i64 r.2)]
set_option maxHeartbeats 20000000 in
theorem w27 (cp : CallP) (fu : Nat) (x1 : List Int) (H45_0 : ∀ (a0 : List Int) r, slices_ContainsFunc_int fu a0 (fun y0 => shape_Size_1 fu y0) = some r → cp 45 [.arr a0.length (lm (ik .i64) a0), .fn 46 [] []] = some (.v (.bool r))) (H45_1 : ∀ (a0 : List Int) r, slices_ContainsFunc_int fu a0 (fun y0 => shape_Size_2 fu y0) = some r → cp 45 [.arr a0.length (lm (ik .i64) a0), .fn 47 [] []] = some (.v (.bool r))) (H48_0 : ∀ (a0 : List Int) (a1 : Int) r, slices_Contains_int fu a0 a1 = some r → cp 48 [.arr a0.length (lm (ik .i64) a0), .v (.int .i64 a1)] = some (.v (.bool r))) : J (go Tryz.prog noC cp noI 0 [] d27 fu (fin Tryz.prog [.tmp 2, .tmp 3] [3, 35]) (bodyOf Tryz.f27) (initE 0 [.arr x1.length (lm (ik .i64) x1)]) [] []) (shape_Size fu x1) e27 := by
 unfold shape_Size e27
 have da := d27_at
 conv => arg 1; simp (disch := first | exact Zd | fail) only [bodyOf, Tryz.f27, ZZ, d27_at, simprocAttr]
 refine J.eq go_seq ?_
 refine J.bind fun x2 h1 => ?_
 have e_h1 := H45_0 _ _ h1
 try simp only [NN, NT, LN, simprocAttr, DT] at e_h1
 refine Jc ?_
 refine J.ite (fun h2 => ?_) (fun h2 => ?_)
 ·have h2' : x2 = true := h2
  refine J.some ?_
  exact Js
 ·have h2' : x2 = false := Bool.eq_false_iff.2 h2
  refine Jc ?_
  refine J.eq ret_seq ?_
  refine J.joinS (fun (t : Unit) => ([(0, .arr x1.length (lm (ik .i64) x1))], [])) (fun t => shape_Size.k1 fu x1) ?_ (fun hj1 => ?_)
  ·rintro ⟨⟩
   show J _ (shape_Size.k1 fu x1) _
   unfold shape_Size.k1
   refine J.eq go_seq ?_
   refine J.bind fun x3 h3 => ?_
   have e_h3 := H48_0 _ _ _ h3
   try simp only [NN, NT, LN, simprocAttr, DT] at e_h3
   refine Jc ?_
   refine J.ite (fun h4 => ?_) (fun h4 => ?_)
   ·have h4' : x3 = true := h4
    refine J.some ?_
    exact Js
   ·have h4' : x3 = false := Bool.eq_false_iff.2 h4
    refine Jc ?_
    refine J.eq ret_seq ?_
    refine Jc ?_
    refine J.eq go_seq ?_
    refine Jc ?_
    unfold shape_Size.W1
    refine J.loop (fun (s : Int × Int) => ([(4, .v (.int .i64 s.1)), (18, .arr x1.length (lm (ik .i64) x1)), (19, .v (.int .i64 (x1.length : Int))), (20, .v (.int .i64 s.2))], [])) (fun next s => shape_Size.L1 fu x1 (fun x5 x6 => next (x5, x6)) s.1 s.2) (s0 := (1, 0)) ?_ ?_ ?_
    ·exact Ze
    ·exact Zh
    rintro next k1 hn1 ⟨x5, x6⟩
    let nx1 : Int → Int → Option (Int × Int) := (fun x5 x6 => next (x5, x6))
    show J _ (shape_Size.L1 fu x1 nx1 x5 x6) _
    unfold shape_Size.L1
    refine Jc ?_
    refine J.eq go_seq ?_
    refine Jc ?_
    refine J.ite (fun h5 => ?_) (fun h5 => ?_)
    ·have h5' := decide_eq_true h5
     have h5'' : decide ((x1.length : Int) ≤ x6) = false := decide_eq_false (by omega)
     refine Jc ?_
     refine J.eq ret_seq ?_
     refine J.eq go_seq ?_
     refine J.at fun x8 h6 h7 h8 => ?_
     conv => arg 1; simp (disch := first | exact Zd | fail) only [ZZ, d27_at, simprocAttr, e_h1, h2', e_h3, h4', h5'', h5', lm_ik h8]
     refine J.eq go_seq ?_
     refine J.chk fun h9 => ?_
     conv => arg 1; simp (disch := first | exact Zd | fail) only [ZZ, d27_at, simprocAttr, e_h1, h2', e_h3, h4', h5'', h5', lm_ik h8]
     refine J.ite (fun h10 => ?_) (fun h10 => ?_)
     ·have h10' := decide_eq_true h10
      have h10'' : decide (x8 ≤ (wk .i64 (Int.tdiv 4096 x5))) = false := decide_eq_false (by omega)
      refine J.some ?_
      simp (maxSteps := 20000000) (disch := first | exact Zd | fail) only [ZZ, d27_at, simprocAttr, e_h1, h2', e_h3, h4', h5'', h5', lm_ik h8, h10'', h10', FN]
     ·have h10' := decide_eq_false h10
      have h10'' : decide (x8 ≤ (wk .i64 (Int.tdiv 4096 x5))) = true := decide_eq_true (by omega)
      conv => arg 1; simp (disch := first | exact Zd | fail) only [ZZ, d27_at, simprocAttr, e_h1, h2', e_h3, h4', h5'', h5', lm_ik h8, h10'', h10']
      refine J.eq ret_seq ?_
      conv => arg 1; simp (disch := first | exact Zd | fail) only [ZZ, d27_at, simprocAttr, e_h1, h2', e_h3, h4', h5'', h5', lm_ik h8, h10'', h10']
      refine J.eq ret_seq ?_
      conv => arg 1; simp (disch := first | exact Zd | fail) only [ZZ, d27_at, simprocAttr, e_h1, h2', e_h3, h4', h5'', h5', lm_ik h8, h10'', h10']
      refine J.next (s := (wk .i64 (x5 * x8), wk .i64 (x6 + 1))) hn1 ?_ ?_
      ·exact Ze
      ·exact Zh
    ·have h5' := decide_eq_false h5
     have h5'' : decide ((x1.length : Int) ≤ x6) = true := decide_eq_true (by omega)
     refine Jc ?_
     refine J.eq ret_seq ?_
     refine J.some ?_
     exact Js
  ·refine J.hd jn_at ?_
   refine J.eq go_seq ?_
   refine Jc ?_
   refine J.ite (fun h11 => ?_) (fun h11 => ?_)
   ·have h11' := decide_eq_true h11
    have h11'' : decide ((x1.length : Int) ≤ 8) = false := decide_eq_false (by omega)
    refine Jc ?_
    refine J.eq ret_seq ?_
    refine J.some ?_
    exact Js
   ·have h11' := decide_eq_false h11
    have h11'' : decide ((x1.length : Int) ≤ 8) = true := decide_eq_true (by omega)
    refine J.bind fun x9 h12 => ?_
    have e_h12 := H45_1 _ _ h12
    try simp only [NN, NT, LN, simprocAttr, DT] at e_h12
    refine Jc ?_
    refine J.eq ret_seq ?_
    refine Jc ?_
    refine J.ite (fun h13 => ?_) (fun h13 => ?_)
    ·have h13' : x9 = true := h13
     refine J.some ?_
     exact Js
    ·have h13' : x9 = false := Bool.eq_false_iff.2 h13
     refine Jc ?_
     refine J.jmp (t := ()) hj1 ?_ ?_
     ·exact Ze
     ·exact Zh
noncomputable def t27 (fu : Nat) : CallP := orE 45 (mkC (fun (t : List Int) => ([.arr t.length (lm (ik .i64) t), .fn 46 [] []] : List AV)) (fun t => slices_ContainsFunc_int fu t (fun y0 => shape_Size_1 fu y0)) e45) (orE 45 (mkC (fun (t : List Int) => ([.arr t.length (lm (ik .i64) t), .fn 47 [] []] : List AV)) (fun t => slices_ContainsFunc_int fu t (fun y0 => shape_Size_2 fu y0)) e45) (orE 48 (mkC (fun (t : (List Int) × Int) => ([.arr t.1.length (lm (ik .i64) t.1), .v (.int .i64 t.2)] : List AV)) (fun t => slices_Contains_int fu t.1 t.2) e48) (noP)))
theorem t27_ok (fu : Nat) : CpOK Tryz.prog (t27 fu ) := orE_ok (orE_ok (orE_ok (noP_ok) (mkC_ok (fun t b h => ok48 fu t.1 t.2  b h))) (mkC_ok (fun t b h => ok45 fu t (fun y0 => shape_Size_2 fu y0) 47 [] Capt.nil (fun y0 r h => ok47 fu y0  r h) b h))) (mkC_ok (fun t b h => ok45 fu t (fun y0 => shape_Size_1 fu y0) 46 [] Capt.nil (fun y0 r h => ok46 fu y0  r h) b h))
theorem ok27 (fu : Nat) (x1 : List Int) (r) (h : shape_Size fu x1 = some r) : PureOK Tryz.prog 27 [.arr x1.length (lm (ik .i64) x1)] (e27 r) :=
  pure_J mixed (cp := t27 fu ) (t27_ok fu  ) noI_ok i27 (w27 _ fu x1  (fun a0 r h => orE_hit (mkC_at (a := a0) (by intro a b h; first | (exact rfl) | (simp only [INJ, IJ] at h; first | exact h | (simp_all [Prod.ext_iff]) )) h)) (fun a0 r h => orE_next (mkC_none (by intro t h; simp at h)) (orE_hit (mkC_at (a := a0) (by intro a b h; first | (exact rfl) | (simp only [INJ, IJ] at h; first | exact h | (simp_all [Prod.ext_iff]) )) h))) (fun a0 a1 r h => orE_miss (by decide) (orE_miss (by decide) (orE_hit (mkC_at (a := (a0, a1)) (by intro a b h; first | (exact rfl) | (simp only [INJ, IJ] at h; first | exact h | (simp_all [Prod.ext_iff]) )) h))))) h
open Aw (d23)
def d23_at := by have h := tabL Aw.d23.eq_1; simp only [AllAt, Nat.zero_add, Nat.reduceAdd] at h; exact h
theorem i23 : finfo Tryz.prog 23 d23 = some ⟨bodyOf Tryz.f23, [.tmp 2], [35]⟩ := finfo_at Tryz.func23 rfl (by kernel_rfl) (by kernel_rfl)
def e23 : Int → AV := fun r => .v (.int .i64 r)
structure K37 (fu : Nat) (cp : CallP) : Prop where
 ap : ∀ {a0 : Int} {r}, tens_known fu a0 = some r → cp 37 [.v (.int .i64 a0)] = some (.v (.bool r))
noncomputable def C37 (fu : Nat) : Cm Tryz.prog Int Bool := ⟨37, fun t => [.v (.int .i64 t)], fun t => tens_known fu t, e37, fun t b h => ok37 fu t  b h, Zi⟩
theorem u37 {fu : Nat} {cp : CallP} (H : Hit cp (C37 fu).ct) : K37 fu cp := ⟨fun {a0 r} h => (C37 fu).at H a0 r h⟩
structure K27 (fu : Nat) (cp : CallP) : Prop where
 ap : ∀ {a0 : List Int} {r}, shape_Size fu a0 = some r → cp 27 [.arr a0.length (lm (ik .i64) a0)] = some (.tuple [.v (.int .i64 r.1), .v (.int .i64 r.2)])
noncomputable def C27 (fu : Nat) : Cm Tryz.prog (List Int) (Int × Int) := ⟨27, fun t => [.arr t.length (lm (ik .i64) t)], fun t => shape_Size fu t, e27, fun t b h => ok27 fu t  b h, Zi⟩
theorem u27 {fu : Nat} {cp : CallP} (H : Hit cp (C27 fu).ct) : K27 fu cp := ⟨fun {a0 r} h => (C27 fu).at H a0 r h⟩
def tens_Check.j1 : LJ 1 24 Unit Int := ⟨fun r t e => [(1, er e 1), (3, er e 3), (5, .v (.int .i64 t))], fun r t h => [((0, 1, 0), hr h (0, 1, 0))]⟩
set_option maxHeartbeats 20000000 in
open tens_Check in
theorem w23 (cp : CallP) (fu : Nat) (x1 : T_Tensor) (H1 : K37 fu cp) (H2 : K27 fu cp) : J (go Tryz.prog noC cp noI 0 [] d23 fu (fin Tryz.prog [.tmp 2] [35]) (bodyOf Tryz.f23) (initE 0 [.agg (c_T_Tensor x1)]) [] []) (tens_Check fu x1) e23 := by
 unfold tens_Check e23
 have da := d23_at
 conv => arg 1; simp only [bodyOf, Tryz.f23]
 have z0 := d23_at
 exact Wk
theorem ok23 (fu : Nat) (x1 : T_Tensor) (r) (h : tens_Check fu x1 = some r) : PureOK Tryz.prog 23 [.agg (c_T_Tensor x1)] (e23 r) := pureT mixed [(C37 fu).ct, (C27 fu).ct] (ids := [37, 27]) rfl (by decide) i23 (C := noC) (ci := fun cp => noI) (fun cp ok => noI_ok) (fun cp H => w23 cp fu x1 (u37 H.1) (u27 H.2.1)) h
open Aw (d79)
def d79_at := by have h := tabL Aw.d79.eq_1; simp only [AllAt, Nat.zero_add, Nat.reduceAdd] at h; exact h
theorem i79 : finfo Tryz.prog 79 d79 = some ⟨bodyOf Tryz.f79, [.tmp 2], [27]⟩ := finfo_at Tryz.func79 rfl (by kernel_rfl) (by kernel_rfl)
def e79 : (List Int) → AV := fun r => .fresh 1 r.length (lm (ik .i64) r)
set_option maxHeartbeats 20000000 in
theorem w79 (cp : CallP) (fu : Nat) (x1 : List Int)  : J (go Tryz.prog noC cp noI 0 [] d79 fu (fin Tryz.prog [.tmp 2] [27]) (bodyOf Tryz.f79) (initE 0 [.arr x1.length (lm (ik .i64) x1)]) [] []) (tens_own_int fu x1) e79 := by
 unfold tens_own_int e79
 have da := d79_at
 conv => arg 1; simp only [bodyOf, Tryz.f79]
 have z0 := d79_at
 exact Wk
theorem ok79 (fu : Nat) (x1 : List Int) (r) (h : tens_own_int fu x1 = some r) : PureOK Tryz.prog 79 [.arr x1.length (lm (ik .i64) x1)] (e79 r) := pureT mixed [] (ids := []) rfl (by decide) i79 (C := noC) (ci := fun cp => noI) (fun cp ok => noI_ok) (fun cp H => w79 cp fu x1 ) h
open Aw (d80)
def d80_at := by have h := tabL Aw.d80.eq_1; simp only [AllAt, Nat.zero_add, Nat.reduceAdd] at h; exact h
theorem i80 : finfo Tryz.prog 80 d80 = some ⟨bodyOf Tryz.f80, [.tmp 2], [22]⟩ := finfo_at Tryz.func80 rfl (by kernel_rfl) (by kernel_rfl)
def e80 : (List Int) → AV := fun r => .fresh 1 r.length (lm (ik .u32) r)
set_option maxHeartbeats 20000000 in
theorem w80 (cp : CallP) (fu : Nat) (x1 : List Int)  : J (go Tryz.prog noC cp noI 0 [] d80 fu (fin Tryz.prog [.tmp 2] [22]) (bodyOf Tryz.f80) (initE 0 [.arr x1.length (lm (ik .u32) x1)]) [] []) (tens_own_uint32 fu x1) e80 := by
 unfold tens_own_uint32 e80
 have da := d80_at
 conv => arg 1; simp only [bodyOf, Tryz.f80]
 have z0 := d80_at
 exact Wk
theorem ok80 (fu : Nat) (x1 : List Int) (r) (h : tens_own_uint32 fu x1 = some r) : PureOK Tryz.prog 80 [.arr x1.length (lm (ik .u32) x1)] (e80 r) := pureT mixed [] (ids := []) rfl (by decide) i80 (C := noC) (ci := fun cp => noI) (fun cp ok => noI_ok) (fun cp H => w80 cp fu x1 ) h
open Aw (d81)
def d81_at := by have h := tabL Aw.d81.eq_1; simp only [AllAt, Nat.zero_add, Nat.reduceAdd] at h; exact h
theorem i81 : finfo Tryz.prog 81 d81 = some ⟨bodyOf Tryz.f81, [.tmp 2], [28]⟩ := finfo_at Tryz.func81 rfl (by kernel_rfl) (by kernel_rfl)
def e81 : (List Int) → AV := fun r => .fresh 1 r.length (lm (ik .i64) r)
set_option maxHeartbeats 20000000 in
theorem w81 (cp : CallP) (fu : Nat) (x1 : List Int)  : J (go Tryz.prog noC cp noI 0 [] d81 fu (fin Tryz.prog [.tmp 2] [28]) (bodyOf Tryz.f81) (initE 0 [.arr x1.length (lm (ik .i64) x1)]) [] []) (tens_own_int64 fu x1) e81 := by
 unfold tens_own_int64 e81
 have da := d81_at
 conv => arg 1; simp only [bodyOf, Tryz.f81]
 have z0 := d81_at
 exact Wk
theorem ok81 (fu : Nat) (x1 : List Int) (r) (h : tens_own_int64 fu x1 = some r) : PureOK Tryz.prog 81 [.arr x1.length (lm (ik .i64) x1)] (e81 r) := pureT mixed [] (ids := []) rfl (by decide) i81 (C := noC) (ci := fun cp => noI) (fun cp ok => noI_ok) (fun cp H => w81 cp fu x1 ) h
open Aw (d82)
def d82_at := by have h := tabL Aw.d82.eq_1; simp only [AllAt, Nat.zero_add, Nat.reduceAdd] at h; exact h
theorem i82 : finfo Tryz.prog 82 d82 = some ⟨bodyOf Tryz.f82, [.tmp 2], [29]⟩ := finfo_at Tryz.func82 rfl (by kernel_rfl) (by kernel_rfl)
def e82 : (List Bool) → AV := fun r => .fresh 1 r.length (lm (bk) r)
set_option maxHeartbeats 20000000 in
theorem w82 (cp : CallP) (fu : Nat) (x1 : List Bool)  : J (go Tryz.prog noC cp noI 0 [] d82 fu (fin Tryz.prog [.tmp 2] [29]) (bodyOf Tryz.f82) (initE 0 [.arr x1.length (lm (bk) x1)]) [] []) (tens_own_bool fu x1) e82 := by
 unfold tens_own_bool e82
 have da := d82_at
 conv => arg 1; simp only [bodyOf, Tryz.f82]
 have z0 := d82_at
 exact Wk
theorem ok82 (fu : Nat) (x1 : List Bool) (r) (h : tens_own_bool fu x1 = some r) : PureOK Tryz.prog 82 [.arr x1.length (lm (bk) x1)] (e82 r) := pureT mixed [] (ids := []) rfl (by decide) i82 (C := noC) (ci := fun cp => noI) (fun cp ok => noI_ok) (fun cp H => w82 cp fu x1 ) h
open Aw (d38)
def d38_at := by have h := tabL Aw.d38.eq_1; simp only [AllAt, Nat.zero_add, Nat.reduceAdd] at h; exact h
theorem i38 : finfo Tryz.prog 38 d38 = some ⟨bodyOf Tryz.f38, [.cell 2 31], [31]⟩ := finfo_at Tryz.func38 rfl (by kernel_rfl) (by kernel_rfl)
def e38 : T_Tensor → AV := fun r => .agg [.v (.int .i64 r.fType), .fresh 1 r.fDims.length (lm (ik .i64) r.fDims), .fresh 1 r.fF.length (lm (ik .u32) r.fF), .fresh 1 r.fI.length (lm (ik .i64) r.fI), .fresh 1 r.fB.length (lm (bk) r.fB)]
structure K79 (fu : Nat) (cp : CallP) : Prop where
 ap : ∀ {a0 : List Int} {r}, tens_own_int fu a0 = some r → cp 79 [.arr a0.length (lm (ik .i64) a0)] = some (.fresh 1 r.length (lm (ik .i64) r))
noncomputable def C79 (fu : Nat) : Cm Tryz.prog (List Int) (List Int) := ⟨79, fun t => [.arr t.length (lm (ik .i64) t)], fun t => tens_own_int fu t, e79, fun t b h => ok79 fu t  b h, Zi⟩
theorem u79 {fu : Nat} {cp : CallP} (H : Hit cp (C79 fu).ct) : K79 fu cp := ⟨fun {a0 r} h => (C79 fu).at H a0 r h⟩
structure K80 (fu : Nat) (cp : CallP) : Prop where
 ap : ∀ {a0 : List Int} {r}, tens_own_uint32 fu a0 = some r → cp 80 [.arr a0.length (lm (ik .u32) a0)] = some (.fresh 1 r.length (lm (ik .u32) r))
noncomputable def C80 (fu : Nat) : Cm Tryz.prog (List Int) (List Int) := ⟨80, fun t => [.arr t.length (lm (ik .u32) t)], fun t => tens_own_uint32 fu t, e80, fun t b h => ok80 fu t  b h, Zi⟩
theorem u80 {fu : Nat} {cp : CallP} (H : Hit cp (C80 fu).ct) : K80 fu cp := ⟨fun {a0 r} h => (C80 fu).at H a0 r h⟩
structure K81 (fu : Nat) (cp : CallP) : Prop where
 ap : ∀ {a0 : List Int} {r}, tens_own_int64 fu a0 = some r → cp 81 [.arr a0.length (lm (ik .i64) a0)] = some (.fresh 1 r.length (lm (ik .i64) r))
noncomputable def C81 (fu : Nat) : Cm Tryz.prog (List Int) (List Int) := ⟨81, fun t => [.arr t.length (lm (ik .i64) t)], fun t => tens_own_int64 fu t, e81, fun t b h => ok81 fu t  b h, Zi⟩
theorem u81 {fu : Nat} {cp : CallP} (H : Hit cp (C81 fu).ct) : K81 fu cp := ⟨fun {a0 r} h => (C81 fu).at H a0 r h⟩
structure K82 (fu : Nat) (cp : CallP) : Prop where
 ap : ∀ {a0 : List Bool} {r}, tens_own_bool fu a0 = some r → cp 82 [.arr a0.length (lm (bk) a0)] = some (.fresh 1 r.length (lm (bk) r))
noncomputable def C82 (fu : Nat) : Cm Tryz.prog (List Bool) (List Bool) := ⟨82, fun t => [.arr t.length (lm (bk) t)], fun t => tens_own_bool fu t, e82, fun t b h => ok82 fu t  b h, Zi⟩
theorem u82 {fu : Nat} {cp : CallP} (H : Hit cp (C82 fu).ct) : K82 fu cp := ⟨fun {a0 r} h => (C82 fu).at H a0 r h⟩
set_option maxHeartbeats 20000000 in
theorem w38 (cp : CallP) (fu : Nat) (x1 : T_Tensor) (H1 : K79 fu cp) (H2 : K80 fu cp) (H3 : K81 fu cp) (H4 : K82 fu cp) : J (go Tryz.prog noC cp noI 0 [] d38 fu (fin Tryz.prog [.cell 2 31] [31]) (bodyOf Tryz.f38) (initE 0 [.agg (c_T_Tensor x1)]) [] []) (tens_Copy fu x1) e38 := by
 unfold tens_Copy e38
 have da := d38_at
 conv => arg 1; simp only [bodyOf, Tryz.f38]
 have z0 := d38_at
 exact Wk
theorem ok38 (fu : Nat) (x1 : T_Tensor) (r) (h : tens_Copy fu x1 = some r) : PureOK Tryz.prog 38 [.agg (c_T_Tensor x1)] (e38 r) := pureT mixed [(C79 fu).ct, (C80 fu).ct, (C81 fu).ct, (C82 fu).ct] (ids := [79, 80, 81, 82]) rfl (by decide) i38 (C := noC) (ci := fun cp => noI) (fun cp ok => noI_ok) (fun cp H => w38 cp fu x1 (u79 H.1) (u80 H.2.1) (u81 H.2.2.1) (u82 H.2.2.2.1)) h
open Aw (d133)
def d133_at := by have h := tabL Aw.d133.eq_1; simp only [AllAt, Nat.zero_add, Nat.reduceAdd] at h; exact h
theorem i133 : finfo Tryz.prog 133 d133 = some ⟨bodyOf Tryz.f133, [.tmp 2], [24]⟩ := finfo_at Tryz.func133 rfl (by kernel_rfl) (by kernel_rfl)
def e133 : Int → AV := fun r => .v (.int .u32 r)
set_option maxHeartbeats 20000000 in
theorem w133 (cp : CallP) (fu : Nat) (x1 : Int)  : J (go Tryz.prog noC cp noI 0 [] d133 fu (fin Tryz.prog [.tmp 2] [24]) (bodyOf Tryz.f133) (initE 0 [.v (.int .u32 x1)]) [] []) (soft_Abs fu x1) e133 := by
 unfold soft_Abs e133
 have da := d133_at
 conv => arg 1; simp only [bodyOf, Tryz.f133]
 have z0 := d133_at
 exact Wk
theorem ok133 (fu : Nat) (x1 : Int) (r) (h : soft_Abs fu x1 = some r) : PureOK Tryz.prog 133 [.v (.int .u32 x1)] (e133 r) := pureT mixed [] (ids := []) rfl (by decide) i133 (C := noC) (ci := fun cp => noI) (fun cp ok => noI_ok) (fun cp H => w133 cp fu x1 ) h
open Aw (d83)
def d83_at := by have h := tabL Aw.d83.eq_1; simp only [AllAt, Nat.zero_add, Nat.reduceAdd] at h; exact h
theorem i83 : finfo Tryz.prog 83 d83 = some ⟨bodyOf Tryz.f83, [.tmp 2], [4]⟩ := finfo_at Tryz.func83 rfl (by kernel_rfl) (by kernel_rfl)
def e83 : Bool → AV := fun r => .v (.bool r)
structure K133 (fu : Nat) (cp : CallP) : Prop where
 ap : ∀ {a0 : Int} {r}, soft_Abs fu a0 = some r → cp 133 [.v (.int .u32 a0)] = some (.v (.int .u32 r))
noncomputable def C133 (fu : Nat) : Cm Tryz.prog Int Int := ⟨133, fun t => [.v (.int .u32 t)], fun t => soft_Abs fu t, e133, fun t b h => ok133 fu t  b h, Zi⟩
theorem u133 {fu : Nat} {cp : CallP} (H : Hit cp (C133 fu).ct) : K133 fu cp := ⟨fun {a0 r} h => (C133 fu).at H a0 r h⟩
set_option maxHeartbeats 20000000 in
theorem w83 (cp : CallP) (fu : Nat) (x1 : Int) (H1 : K133 fu cp) : J (go Tryz.prog noC cp noI 0 [] d83 fu (fin Tryz.prog [.tmp 2] [4]) (bodyOf Tryz.f83) (initE 0 [.v (.int .u32 x1)]) [] []) (soft_NaN fu x1) e83 := by
 unfold soft_NaN e83
 have da := d83_at
 conv => arg 1; simp only [bodyOf, Tryz.f83]
 have z0 := d83_at
 exact Wk
theorem ok83 (fu : Nat) (x1 : Int) (r) (h : soft_NaN fu x1 = some r) : PureOK Tryz.prog 83 [.v (.int .u32 x1)] (e83 r) := pureT mixed [(C133 fu).ct] (ids := [133]) rfl (by decide) i83 (C := noC) (ci := fun cp => noI) (fun cp ok => noI_ok) (fun cp H => w83 cp fu x1 (u133 H.1)) h
open Aw (d39)
def d39_at := by have h := tabL Aw.d39.eq_1; simp only [AllAt, Nat.zero_add, Nat.reduceAdd] at h; exact h
theorem i39 : finfo Tryz.prog 39 d39 = some ⟨bodyOf Tryz.f39, [.tmp 2], [24]⟩ := finfo_at Tryz.func39 rfl (by kernel_rfl) (by kernel_rfl)
def e39 : Int → AV := fun r => .v (.int .u32 r)
structure K83 (fu : Nat) (cp : CallP) : Prop where
 ap : ∀ {a0 : Int} {r}, soft_NaN fu a0 = some r → cp 83 [.v (.int .u32 a0)] = some (.v (.bool r))
noncomputable def C83 (fu : Nat) : Cm Tryz.prog Int Bool := ⟨83, fun t => [.v (.int .u32 t)], fun t => soft_NaN fu t, e83, fun t b h => ok83 fu t  b h, Zi⟩
theorem u83 {fu : Nat} {cp : CallP} (H : Hit cp (C83 fu).ct) : K83 fu cp := ⟨fun {a0 r} h => (C83 fu).at H a0 r h⟩
set_option maxHeartbeats 20000000 in
theorem w39 (cp : CallP) (fu : Nat) (x1 : Int) (H1 : K83 fu cp) : J (go Tryz.prog noC cp noI 0 [] d39 fu (fin Tryz.prog [.tmp 2] [24]) (bodyOf Tryz.f39) (initE 0 [.v (.int .u32 x1)]) [] []) (soft_Canon fu x1) e39 := by
 unfold soft_Canon e39
 have da := d39_at
 conv => arg 1; simp only [bodyOf, Tryz.f39]
 have z0 := d39_at
 exact Wk
theorem ok39 (fu : Nat) (x1 : Int) (r) (h : soft_Canon fu x1 = some r) : PureOK Tryz.prog 39 [.v (.int .u32 x1)] (e39 r) := pureT mixed [(C83 fu).ct] (ids := [83]) rfl (by decide) i39 (C := noC) (ci := fun cp => noI) (fun cp ok => noI_ok) (fun cp H => w39 cp fu x1 (u83 H.1)) h
open Aw (d24)
def d24_at := by have h := tabL Aw.d24.eq_1; simp only [AllAt, Nat.zero_add, Nat.reduceAdd] at h; exact h
theorem i24 : finfo Tryz.prog 24 d24 = some ⟨bodyOf Tryz.f24, [.cell 2 31], [31]⟩ := finfo_at Tryz.func24 rfl (by kernel_rfl) (by kernel_rfl)
def e24 : T_Tensor → AV := fun r => .agg [.v (.int .i64 r.fType), .fresh 1 r.fDims.length (lm (ik .i64) r.fDims), .fresh 1 r.fF.length (lm (ik .u32) r.fF), .fresh 1 r.fI.length (lm (ik .i64) r.fI), .fresh 1 r.fB.length (lm (bk) r.fB)]
structure K38 (fu : Nat) (cp : CallP) : Prop where
 ap : ∀ {a0 : T_Tensor} {r}, tens_Copy fu a0 = some r → cp 38 [.agg (c_T_Tensor a0)] = some (.agg [.v (.int .i64 r.fType), .fresh 1 r.fDims.length (lm (ik .i64) r.fDims), .fresh 1 r.fF.length (lm (ik .u32) r.fF), .fresh 1 r.fI.length (lm (ik .i64) r.fI), .fresh 1 r.fB.length (lm (bk) r.fB)])
noncomputable def C38 (fu : Nat) : Cm Tryz.prog T_Tensor T_Tensor := ⟨38, fun t => [.agg (c_T_Tensor t)], fun t => tens_Copy fu t, e38, fun t b h => ok38 fu t  b h, Zi⟩
theorem u38 {fu : Nat} {cp : CallP} (H : Hit cp (C38 fu).ct) : K38 fu cp := ⟨fun {a0 r} h => (C38 fu).at H a0 r h⟩
structure K39 (fu : Nat) (cp : CallP) : Prop where
 ap : ∀ {a0 : Int} {r}, soft_Canon fu a0 = some r → cp 39 [.v (.int .u32 a0)] = some (.v (.int .u32 r))
noncomputable def C39 (fu : Nat) : Cm Tryz.prog Int Int := ⟨39, fun t => [.v (.int .u32 t)], fun t => soft_Canon fu t, e39, fun t b h => ok39 fu t  b h, Zi⟩
theorem u39 {fu : Nat} {cp : CallP} (H : Hit cp (C39 fu).ct) : K39 fu cp := ⟨fun {a0 r} h => (C39 fu).at H a0 r h⟩
def tens_Canon.m1 : LJ 1 6 Unit ((List Int) × Int) := ⟨fun r s e => [(2, er e 2), (3, er e 3), (9, .own (0, 7, 1) 0 s.1.length s.1.length), (10, er e 10), (11, .v (.int .i64 s.2))], fun r s h => [((0, 2, 0), hr h (0, 2, 0)), ((0, 7, 0), hr h (0, 7, 0)), ((0, 7, 1), .sl true true 1 s.1.length (lm (ik .u32) s.1)), ((0, 7, 2), hr h (0, 7, 2)), ((0, 7, 3), hr h (0, 7, 3)), ((0, 3, 0), bs (hr h (0, 3, 0)) 2 (.own (0, 7, 1) 0 s.1.length s.1.length))]⟩
set_option maxHeartbeats 20000000 in
open tens_Canon in
theorem w24 (cp : CallP) (fu : Nat) (x1 : T_Tensor) (H1 : K38 fu cp) (H2 : K39 fu cp) : J (go Tryz.prog noC cp noI 0 [] d24 fu (fin Tryz.prog [.cell 2 31] [31]) (bodyOf Tryz.f24) (initE 0 [.agg (c_T_Tensor x1)]) [] []) (tens_Canon fu x1) e24 := by
 unfold tens_Canon e24
 have da := d24_at
 conv => arg 1; simp only [bodyOf, Tryz.f24]
 have z0 := d24_at
 exact Wk
theorem ok24 (fu : Nat) (x1 : T_Tensor) (r) (h : tens_Canon fu x1 = some r) : PureOK Tryz.prog 24 [.agg (c_T_Tensor x1)] (e24 r) := pureT mixed [(C38 fu).ct, (C39 fu).ct] (ids := [38, 39]) rfl (by decide) i24 (C := noC) (ci := fun cp => noI) (fun cp ok => noI_ok) (fun cp H => w24 cp fu x1 (u38 H.1) (u39 H.2.1)) h
def d44 : List (Nat × List Nat) := [(0, [2]), (0, []), (0, [3]), (0, []), (0, []), (0, []), (0, [0, 5, 6, 7])]
def d44_at := And.intro (show d44.getD 0 (0, []) = (0, [2]) from rfl) <| And.intro (show d44.getD 1 (0, []) = (0, []) from rfl) <| And.intro (show d44.getD 2 (0, []) = (0, [3]) from rfl) <| And.intro (show d44.getD 3 (0, []) = (0, []) from rfl) <| And.intro (show d44.getD 4 (0, []) = (0, []) from rfl) <| And.intro (show d44.getD 5 (0, []) = (0, []) from rfl) <| (show d44.getD 6 (0, []) = (0, [0, 5, 6, 7]) from rfl)
theorem i44 : finfo Tryz.prog 44 d44 = some ⟨bodyOf Tryz.f44, [.tmp 2], [27]⟩ := finfo_at Tryz.func44 rfl (by kernel_rfl) (by kernel_rfl)
def e44 : List Int → AV := fun r => .fresh 1 r.length (lm (ik .i64) r)
theorem ok44 (fu : Nat) (x1 : List Int) (r) (h : slices_Clone_int fu x1 = some r) : PureOK Tryz.prog 44 [.arr x1.length (lm (ik .i64) x1)] (e44 r) := by
  unfold slices_Clone_int chk at h
  split at h
  · rename_i hs; injection h with h; subst h
    cases x1 with
    | nil =>
      refine PureOK.arr0 fun a c => ?_
      refine pure_J mixed (C := noC) (cp := noP) (n := 0) noP_ok noI_ok i44 (s := some []) (enc := e44) ?_ rfl
      refine J.some ?_
      unfold e44
      cases a with
      | none =>
        conv => lhs; simp (disch := first | exact Zd | fail) only [bodyOf, Tryz.f44, ZZ, d44_at, simprocAttr, abin_sl tv27]
        rw [go_seq]
        simp (disch := first | exact Zd | fail) only [ZZ, d44_at, simprocAttr, abin_sl tv27, FF, NN, NT]
      | some a =>
        conv => lhs; simp (disch := first | exact Zd | fail) only [bodyOf, Tryz.f44, ZZ, d44_at, simprocAttr, abin_sl tv27]
        rw [go_seq]
        conv => lhs; simp (disch := first | exact Zd | fail) only [ZZ, d44_at, simprocAttr, abin_sl tv27]
        rw [ret_seq]
        simp (disch := first | exact Zd | fail) only [ZZ, d44_at, simprocAttr, abin_sl tv27, FF, NN, NT]
    | cons y x1 =>
      refine pure_J mixed (C := noC) (cp := noP) (n := 0) noP_ok noI_ok i44 (s := some (y :: x1)) (enc := e44) ?_ rfl
      refine J.some ?_
      have ha : ∀ xs, abin Tryz.prog .eql 27 (.arr (y :: x1).length xs) (.v (.slice none 0 0)) = some (.v (.bool false)) := fun xs => abin_an (op := .eql) tv27 (by simp)
      generalize y :: x1 = l at hs ha ⊢
      unfold e44
      conv => lhs; simp (disch := first | exact Zd | fail) only [bodyOf, Tryz.f44, ZZ, d44_at, simprocAttr, abin_sl tv27, ha]
      rw [go_seq]
      conv => lhs; simp (disch := first | exact Zd | fail) only [ZZ, d44_at, simprocAttr, abin_sl tv27, ha]
      rw [ret_seq]
      simp (disch := first | exact Zd | fail) only [ZZ, d44_at, simprocAttr, abin_sl tv27, FF, NN, NT, lm_length]
  · cases h
open Aw (d26)
def d26_at := by have h := tabL Aw.d26.eq_1; simp only [AllAt, Nat.zero_add, Nat.reduceAdd] at h; exact h
theorem i26 : finfo Tryz.prog 26 d26 = some ⟨bodyOf Tryz.f26, [.tmp 2], [51]⟩ := finfo_at Tryz.func26 rfl (by kernel_rfl) (by kernel_rfl)
def e26 : (List T_Val) → AV := fun r => .arr r.length (fm c_T_Val r)
structure K44 (fu : Nat) (cp : CallP) : Prop where
 ap : ∀ {a0 : List Int} {r}, slices_Clone_int fu a0 = some r → cp 44 [.arr a0.length (lm (ik .i64) a0)] = some (.fresh 1 r.length (lm (ik .i64) r))
noncomputable def C44 (fu : Nat) : Cm Tryz.prog (List Int) (List Int) := ⟨44, fun t => [.arr t.length (lm (ik .i64) t)], fun t => slices_Clone_int fu t, e44, fun t b h => ok44 fu t  b h, Zi⟩
theorem u44 {fu : Nat} {cp : CallP} (H : Hit cp (C44 fu).ct) : K44 fu cp := ⟨fun {a0 r} h => (C44 fu).at H a0 r h⟩
def ewise_Vals.m1 : LJ 1 6 Unit ((List T_Val) × Int) := ⟨fun r s e => [(3, .own (0, 3, 77) 0 s.1.length s.1.length), (7, er e 7), (8, er e 8), (9, .v (.int .i64 s.2))], fun r s h => [((0, 3, 77), .sl true true 8 s.1.length (fm c_T_Val s.1))]⟩
set_option maxHeartbeats 20000000 in
open ewise_Vals in
theorem w26 (cp : CallP) (fu : Nat) (x1 : List T_Tensor) (H1 : K44 fu cp) (H2 : K38 fu cp) : J (go Tryz.prog noC cp noI 0 [] d26 fu (finS Tryz.prog [.tmp 2] [51]) (bodyOf Tryz.f26) (initE 0 [.arr x1.length (fm c_T_Tensor x1)]) [] []) (ewise_Vals fu x1) e26 := by
 unfold ewise_Vals e26
 have da := d26_at
 conv => arg 1; simp only [bodyOf, Tryz.f26]
 have z0 := d26_at
 have z1 := SE
 exact Wk
theorem ok26 (fu : Nat) (x1 : List T_Tensor) (r) (h : ewise_Vals fu x1 = some r) : PureOK Tryz.prog 26 [.arr x1.length (fm c_T_Tensor x1)] (e26 r) := pureST mixed [(C44 fu).ct, (C38 fu).ct] (ids := [44, 38]) rfl (by decide) i26 (C := noC) (ci := fun cp => noI) (fun cp ok => noI_ok) (fun cp H => w26 cp fu x1 (u44 H.1) (u38 H.2.1)) h
def e84 : (Int × Int × Int × Int) → AV := fun r => .tuple [.v (.int .i64 r.1), .v (.int .i64 r.2.1), .v (.int .i64 r.2.2.1), .v (.int .i64 r.2.2.2)]
theorem ok84 (fu : Nat) (x1 : Int) (r) (h : ops_Arity fu x1 = some r) : PureOK Tryz.prog 84 [.v (.int .i64 x1)] (e84 r) := by
  unfold ops_Arity chk at h
  split at h
  · rename_i hx; injection h with h; subst h
    obtain rfl := hx
    exact closed84_74
  · cases h
open Aw (d101)
def d101_at := by have h := tabL Aw.d101.eq_1; simp only [AllAt, Nat.zero_add, Nat.reduceAdd] at h; exact h
theorem i101 : finfo Tryz.prog 101 d101 = some ⟨bodyOf Tryz.f101, [.cell 4 56], [56]⟩ := finfo_at Tryz.func101 rfl (by kernel_rfl) (by kernel_rfl)
def e101 : T_Val → AV := fun r => .agg [.v (.int .i64 r.fType), .arr r.fDims.length (lm (ik .i64) r.fDims), .v (.bool r.fConst), .v (.int .i64 r.fT.fType), .arr r.fT.fDims.length (lm (ik .i64) r.fT.fDims), .arr r.fT.fF.length (lm (ik .u32) r.fT.fF), .arr r.fT.fI.length (lm (ik .i64) r.fT.fI), .arr r.fT.fB.length (lm (bk) r.fT.fB)]
set_option maxHeartbeats 20000000 in
theorem w101 (cp : CallP) (fu : Nat) (x1 : T_infer_ask) (x2 : Int)  : J (go Tryz.prog noC cp noI 0 [] d101 fu (finS Tryz.prog [.cell 4 56] [56]) (bodyOf Tryz.f101) (initE 0 [.agg (c_T_infer_ask x1), .v (.int .i64 x2)]) [] []) (infer_ask_val fu x1 x2) e101 := by
 unfold infer_ask_val e101
 have da := d101_at
 conv => arg 1; simp only [bodyOf, Tryz.f101]
 have z0 := d101_at
 have z1 := SE
 exact Wk
theorem ok101 (fu : Nat) (x1 : T_infer_ask) (x2 : Int) (r) (h : infer_ask_val fu x1 x2 = some r) : PureOK Tryz.prog 101 [.agg (c_T_infer_ask x1), .v (.int .i64 x2)] (e101 r) := pureST mixed [] (ids := []) rfl (by decide) i101 (C := noC) (ci := fun cp => noI) (fun cp ok => noI_ok) (fun cp H => w101 cp fu x1 x2 ) h
open Aw (d85)
def d85_at := by have h := tabL Aw.d85.eq_1; simp only [AllAt, Nat.zero_add, Nat.reduceAdd] at h; exact h
theorem i85 : finfo Tryz.prog 85 d85 = some ⟨bodyOf Tryz.f85, [.tmp 4], [4]⟩ := finfo_at Tryz.func85 rfl (by kernel_rfl) (by kernel_rfl)
def e85 : Bool → AV := fun r => .v (.bool r)
structure K101 (fu : Nat) (cp : CallP) : Prop where
 ap : ∀ {a0 : T_infer_ask} {a1 : Int} {r}, infer_ask_val fu a0 a1 = some r → cp 101 [.agg (c_T_infer_ask a0), .v (.int .i64 a1)] = some (.agg [.v (.int .i64 r.fType), .arr r.fDims.length (lm (ik .i64) r.fDims), .v (.bool r.fConst), .v (.int .i64 r.fT.fType), .arr r.fT.fDims.length (lm (ik .i64) r.fT.fDims), .arr r.fT.fF.length (lm (ik .u32) r.fT.fF), .arr r.fT.fI.length (lm (ik .i64) r.fT.fI), .arr r.fT.fB.length (lm (bk) r.fT.fB)])
noncomputable def C101 (fu : Nat) : Cm Tryz.prog (T_infer_ask × Int) T_Val := ⟨101, fun t => [.agg (c_T_infer_ask t.1), .v (.int .i64 t.2)], fun t => infer_ask_val fu t.1 t.2, e101, fun t b h => ok101 fu t.1 t.2  b h, Zi⟩
theorem u101 {fu : Nat} {cp : CallP} (H : Hit cp (C101 fu).ct) : K101 fu cp := ⟨fun {a0 a1 r} h => (C101 fu).at H (a0, a1) r h⟩
set_option maxHeartbeats 20000000 in
theorem w85 (cp : CallP) (fu : Nat) (x1 : T_infer_ask) (x2 : Int) (H1 : K101 fu cp) : J (go Tryz.prog noC cp noI 0 [] d85 fu (fin Tryz.prog [.tmp 4] [4]) (bodyOf Tryz.f85) (initE 0 [.agg (c_T_infer_ask x1), .v (.int .i64 x2)]) [] []) (infer_ask_has fu x1 x2) e85 := by
 unfold infer_ask_has e85
 have da := d85_at
 conv => arg 1; simp only [bodyOf, Tryz.f85]
 have z0 := d85_at
 exact Wk
theorem ok85 (fu : Nat) (x1 : T_infer_ask) (x2 : Int) (r) (h : infer_ask_has fu x1 x2 = some r) : PureOK Tryz.prog 85 [.agg (c_T_infer_ask x1), .v (.int .i64 x2)] (e85 r) := pureT mixed [(C101 fu).ct] (ids := [101]) rfl (by decide) i85 (C := noC) (ci := fun cp => noI) (fun cp ok => noI_ok) (fun cp H => w85 cp fu x1 x2 (u101 H.1)) h
open Aw (d40)
def d40_at := by have h := tabL Aw.d40.eq_1; simp only [AllAt, Nat.zero_add, Nat.reduceAdd] at h; exact h
theorem i40 : finfo Tryz.prog 40 d40 = some ⟨bodyOf Tryz.f40, [.tmp 2], [4]⟩ := finfo_at Tryz.func40 rfl (by kernel_rfl) (by kernel_rfl)
def e40 : Bool → AV := fun r => .v (.bool r)
structure K84 (fu : Nat) (cp : CallP) : Prop where
 ap : ∀ {a0 : Int} {r}, ops_Arity fu a0 = some r → cp 84 [.v (.int .i64 a0)] = some (.tuple [.v (.int .i64 r.1), .v (.int .i64 r.2.1), .v (.int .i64 r.2.2.1), .v (.int .i64 r.2.2.2)])
noncomputable def C84 (fu : Nat) : Cm Tryz.prog Int (Int × Int × Int × Int) := ⟨84, fun t => [.v (.int .i64 t)], fun t => ops_Arity fu t, e84, fun t b h => ok84 fu t  b h, Zi⟩
theorem u84 {fu : Nat} {cp : CallP} (H : Hit cp (C84 fu).ct) : K84 fu cp := ⟨fun {a0 r} h => (C84 fu).at H a0 r h⟩
structure K85 (fu : Nat) (cp : CallP) : Prop where
 ap : ∀ {a0 : T_infer_ask} {a1 : Int} {r}, infer_ask_has fu a0 a1 = some r → cp 85 [.agg (c_T_infer_ask a0), .v (.int .i64 a1)] = some (.v (.bool r))
noncomputable def C85 (fu : Nat) : Cm Tryz.prog (T_infer_ask × Int) Bool := ⟨85, fun t => [.agg (c_T_infer_ask t.1), .v (.int .i64 t.2)], fun t => infer_ask_has fu t.1 t.2, e85, fun t b h => ok85 fu t.1 t.2  b h, Zi⟩
theorem u85 {fu : Nat} {cp : CallP} (H : Hit cp (C85 fu).ct) : K85 fu cp := ⟨fun {a0 a1 r} h => (C85 fu).at H (a0, a1) r h⟩
def infer_ask_complete.m1 : LJ 1 10 Unit Int := ⟨fun r s e => [(1, er e 1), (49, er e 49), (50, .v (.int .i64 s))], fun r s h => [((0, 1, 0), hr h (0, 1, 0))]⟩
def infer_ask_complete.j1 : LJ 1 8 Unit Unit := ⟨fun r t e => [(1, er e 1), (3, er e 3)], fun r t h => [((0, 1, 0), hr h (0, 1, 0))]⟩
set_option maxHeartbeats 20000000 in
open infer_ask_complete in
theorem w40 (cp : CallP) (fu : Nat) (x1 : T_infer_ask) (H1 : K84 fu cp) (H2 : K85 fu cp) : J (go Tryz.prog noC cp noI 0 [] d40 fu (fin Tryz.prog [.tmp 2] [4]) (bodyOf Tryz.f40) (initE 0 [.agg (c_T_infer_ask x1)]) [] []) (infer_ask_complete fu x1) e40 := by
 unfold infer_ask_complete e40
 have da := d40_at
 conv => arg 1; simp only [bodyOf, Tryz.f40]
 have z0 := d40_at
 exact Wk
theorem ok40 (fu : Nat) (x1 : T_infer_ask) (r) (h : infer_ask_complete fu x1 = some r) : PureOK Tryz.prog 40 [.agg (c_T_infer_ask x1)] (e40 r) := pureT mixed [(C84 fu).ct, (C85 fu).ct] (ids := [84, 85]) rfl (by decide) i40 (C := noC) (ci := fun cp => noI) (fun cp ok => noI_ok) (fun cp H => w40 cp fu x1 (u84 H.1) (u85 H.2.1)) h
open Aw (d135)
def d135_at := by have h := tabL Aw.d135.eq_1; simp only [AllAt, Nat.zero_add, Nat.reduceAdd] at h; exact h
theorem i135 : finfo Tryz.prog 135 d135 = some ⟨bodyOf Tryz.f135, [.tmp 2], [9]⟩ := finfo_at Tryz.func135 rfl (by kernel_rfl) (by kernel_rfl)
def e135 : ByteArray → AV := fun r => .v (.string r)
def infer_sorts.j5 : LJ 5 210 Unit Unit := ⟨fun r t e => [(3, er e 3), (4, er e 4), (13, er e 13), (18, er e 18), (31, er e 31), (36, er e 36), (45, .v (.bool (decide ((74 : Int) = 51))))], fun r t h => []⟩
def infer_sorts.j4 : LJ 4 170 Unit Unit := ⟨fun r t e => [(3, er e 3), (4, er e 4), (13, er e 13), (18, er e 18), (31, er e 31), (36, .v (.bool (decide ((74 : Int) = 64))))], fun r t h => []⟩
def infer_sorts.j3 : LJ 3 114 Unit Unit := ⟨fun r t e => [(3, er e 3), (4, er e 4), (13, er e 13), (18, .v (.bool (decide ((74 : Int) = 43))))], fun r t h => []⟩
def infer_sorts.j2 : LJ 2 62 Unit Unit := ⟨fun r t e => [(3, er e 3), (4, er e 4), (13, .v (.bool (decide ((74 : Int) = 25))))], fun r t h => []⟩
def infer_sorts.j1 : LJ 1 42 Unit Unit := ⟨fun r t e => [(3, er e 3), (4, .v (.bool (decide ((74 : Int) = 71))))], fun r t h => []⟩
set_option maxHeartbeats 20000000 in
open infer_sorts in
theorem w135 (cp : CallP) (fu : Nat) (x1 : Int)  : J (go Tryz.prog noC cp noI 0 [] d135 fu (fin Tryz.prog [.tmp 2] [9]) (bodyOf Tryz.f135) (initE 0 [.v (.int .i64 x1)]) [] []) (infer_sorts fu x1) e135 := by
 unfold infer_sorts e135
 have da := d135_at
 conv => arg 1; simp only [bodyOf, Tryz.f135]
 have z0 := d135_at
 exact Wk
theorem ok135 (fu : Nat) (x1 : Int) (r) (h : infer_sorts fu x1 = some r) : PureOK Tryz.prog 135 [.v (.int .i64 x1)] (e135 r) := pureT mixed [] (ids := []) rfl (by decide) i135 (C := noC) (ci := fun cp => noI) (fun cp ok => noI_ok) (fun cp H => w135 cp fu x1 ) h
open Aw (d136)
def d136_at := by have h := tabL Aw.d136.eq_1; simp only [AllAt, Nat.zero_add, Nat.reduceAdd] at h; exact h
theorem i136 : finfo Tryz.prog 136 d136 = some ⟨bodyOf Tryz.f136, [.tmp 6], [4]⟩ := finfo_at Tryz.func136 rfl (by kernel_rfl) (by kernel_rfl)
def e136 : Bool → AV := fun r => .v (.bool r)
def infer_ask_fits.j1 : LJ 1 0 Unit Bool := ⟨fun r t e => [(1, er e 1), (3, er e 3), (6, .v (.bool t)), (7, er e 7), (12, er e 12)], fun r t h => [((0, 3, 0), hr h (0, 3, 0))]⟩
set_option maxHeartbeats 20000000 in
open infer_ask_fits in
theorem w136 (cp : CallP) (fu : Nat) (x1 : T_infer_ask) (x2 : Int) (x3 : Int) (H1 : K101 fu cp) (H2 : K78 fu cp) : J (go Tryz.prog noC cp noI 0 [] d136 fu (fin Tryz.prog [.tmp 6] [4]) (bodyOf Tryz.f136) (initE 0 [.agg (c_T_infer_ask x1), .v (.int .i64 x2), .v (.int .u8 x3)]) [] []) (infer_ask_fits fu x1 x2 x3) e136 := by
 unfold infer_ask_fits e136
 have da := d136_at
 conv => arg 1; simp only [bodyOf, Tryz.f136]
 have z0 := d136_at
 exact Wk
theorem ok136 (fu : Nat) (x1 : T_infer_ask) (x2 : Int) (x3 : Int) (r) (h : infer_ask_fits fu x1 x2 x3 = some r) : PureOK Tryz.prog 136 [.agg (c_T_infer_ask x1), .v (.int .i64 x2), .v (.int .u8 x3)] (e136 r) := pureT mixed [(C101 fu).ct, (C78 fu).ct] (ids := [101, 78]) rfl (by decide) i136 (C := noC) (ci := fun cp => noI) (fun cp ok => noI_ok) (fun cp H => w136 cp fu x1 x2 x3 (u101 H.1) (u78 H.2.1)) h
open Aw (d86)
def d86_at := by have h := tabL Aw.d86.eq_1; simp only [AllAt, Nat.zero_add, Nat.reduceAdd] at h; exact h
theorem i86 : finfo Tryz.prog 86 d86 = some ⟨bodyOf Tryz.f86, [.tmp 2], [4]⟩ := finfo_at Tryz.func86 rfl (by kernel_rfl) (by kernel_rfl)
def e86 : Bool → AV := fun r => .v (.bool r)
structure K135 (fu : Nat) (cp : CallP) : Prop where
 ap : ∀ {a0 : Int} {r}, infer_sorts fu a0 = some r → cp 135 [.v (.int .i64 a0)] = some (.v (.string r))
noncomputable def C135 (fu : Nat) : Cm Tryz.prog Int ByteArray := ⟨135, fun t => [.v (.int .i64 t)], fun t => infer_sorts fu t, e135, fun t b h => ok135 fu t  b h, Zi⟩
theorem u135 {fu : Nat} {cp : CallP} (H : Hit cp (C135 fu).ct) : K135 fu cp := ⟨fun {a0 r} h => (C135 fu).at H a0 r h⟩
structure K136 (fu : Nat) (cp : CallP) : Prop where
 ap : ∀ {a0 : T_infer_ask} {a1 : Int} {a2 : Int} {r}, infer_ask_fits fu a0 a1 a2 = some r → cp 136 [.agg (c_T_infer_ask a0), .v (.int .i64 a1), .v (.int .u8 a2)] = some (.v (.bool r))
noncomputable def C136 (fu : Nat) : Cm Tryz.prog (T_infer_ask × Int × Int) Bool := ⟨136, fun t => [.agg (c_T_infer_ask t.1), .v (.int .i64 t.2.1), .v (.int .u8 t.2.2)], fun t => infer_ask_fits fu t.1 t.2.1 t.2.2, e136, fun t b h => ok136 fu t.1 t.2.1 t.2.2  b h, Zi⟩
theorem u136 {fu : Nat} {cp : CallP} (H : Hit cp (C136 fu).ct) : K136 fu cp := ⟨fun {a0 a1 a2 r} h => (C136 fu).at H (a0, a1, a2) r h⟩
def infer_ask_typed.m1 : LJ 1 6 Unit Int := ⟨fun r s e => [(1, er e 1), (3, er e 3), (10, er e 10), (11, .v (.int .i64 s))], fun r s h => [((0, 1, 0), hr h (0, 1, 0))]⟩
def infer_ask_typed.j1 : LJ 1 16 Unit Unit := ⟨fun r t e => [(1, er e 1)], fun r t h => [((0, 1, 0), hr h (0, 1, 0))]⟩
set_option maxHeartbeats 20000000 in
open infer_ask_typed in
theorem w86 (cp : CallP) (fu : Nat) (x1 : T_infer_ask) (H1 : K135 fu cp) (H2 : K85 fu cp) (H3 : K101 fu cp) (H4 : K78 fu cp) (H5 : K136 fu cp) : J (go Tryz.prog noC cp noI 0 [] d86 fu (fin Tryz.prog [.tmp 2] [4]) (bodyOf Tryz.f86) (initE 0 [.agg (c_T_infer_ask x1)]) [] []) (infer_ask_typed fu x1) e86 := by
 unfold infer_ask_typed e86
 have da := d86_at
 conv => arg 1; simp only [bodyOf, Tryz.f86]
 have z0 := d86_at
 exact Wk
theorem ok86 (fu : Nat) (x1 : T_infer_ask) (r) (h : infer_ask_typed fu x1 = some r) : PureOK Tryz.prog 86 [.agg (c_T_infer_ask x1)] (e86 r) := pureT mixed [(C135 fu).ct, (C85 fu).ct, (C101 fu).ct, (C78 fu).ct, (C136 fu).ct] (ids := [135, 85, 101, 78, 136]) rfl (by decide) i86 (C := noC) (ci := fun cp => noI) (fun cp ok => noI_ok) (fun cp H => w86 cp fu x1 (u135 H.1) (u85 H.2.1) (u101 H.2.2.1) (u78 H.2.2.2.1) (u136 H.2.2.2.2.1)) h
open Aw (d89)
def d89_at := by have h := tabL Aw.d89.eq_1; simp only [AllAt, Nat.zero_add, Nat.reduceAdd] at h; exact h
theorem i89 : finfo Tryz.prog 89 d89 = some ⟨bodyOf Tryz.f89, [.tmp 4], [27]⟩ := finfo_at Tryz.func89 rfl (by kernel_rfl) (by kernel_rfl)
def e89 : (List Int) → AV := fun r => .arr r.length (lm (ik .i64) r)
set_option maxHeartbeats 20000000 in
theorem w89 (cp : CallP) (fu : Nat) (x1 : T_infer_ask) (x2 : Int) (H1 : K101 fu cp) : J (go Tryz.prog noC cp noI 0 [] d89 fu (fin Tryz.prog [.tmp 4] [27]) (bodyOf Tryz.f89) (initE 0 [.agg (c_T_infer_ask x1), .v (.int .i64 x2)]) [] []) (infer_ask_dims fu x1 x2) e89 := by
 unfold infer_ask_dims e89
 have da := d89_at
 conv => arg 1; simp only [bodyOf, Tryz.f89]
 have z0 := d89_at
 exact Wk
theorem ok89 (fu : Nat) (x1 : T_infer_ask) (x2 : Int) (r) (h : infer_ask_dims fu x1 x2 = some r) : PureOK Tryz.prog 89 [.agg (c_T_infer_ask x1), .v (.int .i64 x2)] (e89 r) := pureT mixed [(C101 fu).ct] (ids := [101]) rfl (by decide) i89 (C := noC) (ci := fun cp => noI) (fun cp ok => noI_ok) (fun cp H => w89 cp fu x1 x2 (u101 H.1)) h
open Aw (d137)
def d137_at := by have h := tabL Aw.d137.eq_1; simp only [AllAt, Nat.zero_add, Nat.reduceAdd] at h; exact h
theorem i137 : finfo Tryz.prog 137 d137 = some ⟨bodyOf Tryz.f137, [.tmp 2], [3]⟩ := finfo_at Tryz.func137 rfl (by kernel_rfl) (by kernel_rfl)
def e137 : Int → AV := fun r => .v (.int .i64 r)
structure K89 (fu : Nat) (cp : CallP) : Prop where
 ap : ∀ {a0 : T_infer_ask} {a1 : Int} {r}, infer_ask_dims fu a0 a1 = some r → cp 89 [.agg (c_T_infer_ask a0), .v (.int .i64 a1)] = some (.arr r.length (lm (ik .i64) r))
noncomputable def C89 (fu : Nat) : Cm Tryz.prog (T_infer_ask × Int) (List Int) := ⟨89, fun t => [.agg (c_T_infer_ask t.1), .v (.int .i64 t.2)], fun t => infer_ask_dims fu t.1 t.2, e89, fun t b h => ok89 fu t.1 t.2  b h, Zi⟩
theorem u89 {fu : Nat} {cp : CallP} (H : Hit cp (C89 fu).ct) : K89 fu cp := ⟨fun {a0 a1 r} h => (C89 fu).at H (a0, a1) r h⟩
set_option maxHeartbeats 20000000 in
theorem w137 (cp : CallP) (fu : Nat) (x1 : T_infer_ask) (H1 : K89 fu cp) : J (go Tryz.prog noC cp noI 0 [] d137 fu (fin Tryz.prog [.tmp 2] [3]) (bodyOf Tryz.f137) (initE 0 [.agg (c_T_infer_ask x1)]) [] []) (infer_ask_rank fu x1) e137 := by
 unfold infer_ask_rank e137
 have da := d137_at
 conv => arg 1; simp only [bodyOf, Tryz.f137]
 have z0 := d137_at
 exact Wk
theorem ok137 (fu : Nat) (x1 : T_infer_ask) (r) (h : infer_ask_rank fu x1 = some r) : PureOK Tryz.prog 137 [.agg (c_T_infer_ask x1)] (e137 r) := pureT mixed [(C89 fu).ct] (ids := [89]) rfl (by decide) i137 (C := noC) (ci := fun cp => noI) (fun cp ok => noI_ok) (fun cp H => w137 cp fu x1 (u89 H.1)) h
open Aw (d87)
def d87_at := by have h := tabL Aw.d87.eq_1; simp only [AllAt, Nat.zero_add, Nat.reduceAdd] at h; exact h
theorem i87 : finfo Tryz.prog 87 d87 = some ⟨bodyOf Tryz.f87, [.tmp 2], [4]⟩ := finfo_at Tryz.func87 rfl (by kernel_rfl) (by kernel_rfl)
def e87 : Bool → AV := fun r => .v (.bool r)
structure K137 (fu : Nat) (cp : CallP) : Prop where
 ap : ∀ {a0 : T_infer_ask} {r}, infer_ask_rank fu a0 = some r → cp 137 [.agg (c_T_infer_ask a0)] = some (.v (.int .i64 r))
noncomputable def C137 (fu : Nat) : Cm Tryz.prog T_infer_ask Int := ⟨137, fun t => [.agg (c_T_infer_ask t)], fun t => infer_ask_rank fu t, e137, fun t b h => ok137 fu t  b h, Zi⟩
theorem u137 {fu : Nat} {cp : CallP} (H : Hit cp (C137 fu).ct) : K137 fu cp := ⟨fun {a0 r} h => (C137 fu).at H a0 r h⟩
def infer_ask_attributes.j2 : LJ 2 136 Unit Unit := ⟨fun r t e => [(1, er e 1), (3, er e 3), (4, er e 4), (17, er e 17), (58, er e 58), (99, er e 99), (131, .v (.bool (decide ((74 : Int) = 69))))], fun r t h => [((0, 1, 0), hr h (0, 1, 0)), ((0, 3, 0), hr h (0, 3, 0))]⟩
def infer_ask_attributes.j1 : LJ 1 104 Unit Unit := ⟨fun r t e => [(1, er e 1), (3, er e 3), (4, er e 4), (17, er e 17), (58, er e 58), (99, .v (.bool (decide ((74 : Int) = 80))))], fun r t h => [((0, 1, 0), hr h (0, 1, 0)), ((0, 3, 0), hr h (0, 3, 0))]⟩
set_option maxHeartbeats 20000000 in
open infer_ask_attributes in
theorem w87 (cp : CallP) (fu : Nat) (x1 : T_infer_ask) (H1 : K137 fu cp) : J (go Tryz.prog noC cp noI 0 [] d87 fu (fin Tryz.prog [.tmp 2] [4]) (bodyOf Tryz.f87) (initE 0 [.agg (c_T_infer_ask x1)]) [] []) (infer_ask_attributes fu x1) e87 := by
 unfold infer_ask_attributes e87
 have da := d87_at
 conv => arg 1; simp only [bodyOf, Tryz.f87]
 have z0 := d87_at
 exact Wk
theorem ok87 (fu : Nat) (x1 : T_infer_ask) (r) (h : infer_ask_attributes fu x1 = some r) : PureOK Tryz.prog 87 [.agg (c_T_infer_ask x1)] (e87 r) := pureT mixed [(C137 fu).ct] (ids := [137]) rfl (by decide) i87 (C := noC) (ci := fun cp => noI) (fun cp ok => noI_ok) (fun cp H => w87 cp fu x1 (u137 H.1)) h
open Aw (d143)
def d143_at := by have h := tabL Aw.d143.eq_1; simp only [AllAt, Nat.zero_add, Nat.reduceAdd] at h; exact h
theorem i143 : finfo Tryz.prog 143 d143 = some ⟨bodyOf Tryz.f143, [.tmp 2], [51]⟩ := finfo_at Tryz.func143 rfl (by kernel_rfl) (by kernel_rfl)
def e143 : (List T_Val) → AV := fun r => .fresh 8 r.length (fm c_T_Val r)
def infer_ask_lists.j1 : LJ 1 6 Unit Unit := ⟨fun r t e => [(1, er e 1), (3, er e 3), (4, er e 4), (8, er e 8), (13, .v (.bool (decide ((74 : Int) = 65))))], fun r t h => [((0, 1, 0), hr h (0, 1, 0))]⟩
set_option maxHeartbeats 20000000 in
open infer_ask_lists in
theorem w143 (cp : CallP) (fu : Nat) (x1 : T_infer_ask)  : J (go Tryz.prog noC cp noI 0 [] d143 fu (fin Tryz.prog [.tmp 2] [51]) (bodyOf Tryz.f143) (initE 0 [.agg (c_T_infer_ask x1)]) [] []) (infer_ask_lists fu x1) e143 := by
 unfold infer_ask_lists e143
 have da := d143_at
 conv => arg 1; simp only [bodyOf, Tryz.f143]
 have z0 := d143_at
 exact Wk
theorem ok143 (fu : Nat) (x1 : T_infer_ask) (r) (h : infer_ask_lists fu x1 = some r) : PureOK Tryz.prog 143 [.agg (c_T_infer_ask x1)] (e143 r) := pureT mixed [] (ids := []) rfl (by decide) i143 (C := noC) (ci := fun cp => noI) (fun cp ok => noI_ok) (fun cp H => w143 cp fu x1 ) h
open Aw (d207)
def d207_at := by have h := tabL Aw.d207.eq_1; simp only [AllAt, Nat.zero_add, Nat.reduceAdd] at h; exact h
theorem i207 : finfo Tryz.prog 207 d207 = some ⟨bodyOf Tryz.f207, [.tmp 4], [3]⟩ := finfo_at Tryz.func207 rfl (by kernel_rfl) (by kernel_rfl)
def e207 : Int → AV := fun r => .v (.int .i64 r)
set_option maxHeartbeats 20000000 in
theorem w207 (cp : CallP) (fu : Nat) (x1 : List T_Val) (p1 : T_Val → Option Bool) (fv_p1 : FuncId) (ca_p1 : List AV) (cap_p1 : Capt ca_p1) (hp_p1 : ∀ (y0 : T_Val) r, p1 y0 = some r → cp fv_p1 ((.agg (c_T_Val y0)) :: ca_p1) = some (.v (.bool r))) : J (go Tryz.prog noC cp noI 0 [] d207 fu (fin Tryz.prog [.tmp 4] [3]) (bodyOf Tryz.f207) (initE 0 [.arr x1.length (fm c_T_Val x1), .fn fv_p1 [] ca_p1]) [] []) (slices_IndexFunc_api_Val_api_Val fu x1 p1) e207 := by
 unfold slices_IndexFunc_api_Val_api_Val e207
 have da := d207_at
 have c4_p1 := fun g => (cap_p1.1 g).1; have c3_p1 := fun g => (cap_p1.1 g).2.1; have b4_p1 := fun g => (cap_p1.1 g).2.2.1; have b3_p1 := fun g => (cap_p1.1 g).2.2.2; have nm_p1 := cap_p1.2
 conv => arg 1; simp (disch := first | exact Zd | fail) only [bodyOf, Tryz.f207, ZZ, d207_at, simprocAttr, c4_p1, c3_p1, b4_p1, b3_p1, nm_p1]
 refine J.eq go_seq ?_
 conv => arg 1; simp (disch := first | exact Zd | fail) only [ZZ, d207_at, simprocAttr, c4_p1, c3_p1, b4_p1, b3_p1, nm_p1]
 unfold slices_IndexFunc_api_Val_api_Val.W1
 refine J.loop (fun (s : Int) => ([(0, .arr x1.length (fm c_T_Val x1)), (1, .fn fv_p1 [] ca_p1), (7, .v (.int .i64 (x1.length : Int))), (8, .v (.int .i64 s))], [])) (fun next s => slices_IndexFunc_api_Val_api_Val.L1 fu p1 x1 next s) (s0 := 0) ?_ ?_ ?_
 ·exact Ze
 ·exact Zh
 rintro nx1 k1 hn1 x4
 show J _ (slices_IndexFunc_api_Val_api_Val.L1 fu p1 x1 nx1 x4) _
 unfold slices_IndexFunc_api_Val_api_Val.L1
 conv => arg 1; simp (disch := first | exact Zd | fail) only [ZZ, d207_at, simprocAttr, c4_p1, c3_p1, b4_p1, b3_p1, nm_p1]
 refine J.eq go_seq ?_
 conv => arg 1; simp (disch := first | exact Zd | fail) only [ZZ, d207_at, simprocAttr, c4_p1, c3_p1, b4_p1, b3_p1, nm_p1]
 refine J.ite (fun h1 => ?_) (fun h1 => ?_)
 ·have h1' := decide_eq_true h1
  have h1'' : decide ((x1.length : Int) ≤ x4) = false := decide_eq_false (by omega)
  conv => arg 1; simp (disch := first | exact Zd | fail) only [ZZ, d207_at, simprocAttr, c4_p1, c3_p1, b4_p1, b3_p1, nm_p1, h1'', h1']
  refine J.eq ret_seq ?_
  refine J.eq go_seq ?_
  refine J.at fun x7 h2 h3 h4 => ?_
  refine J.bind fun x8 h5 => ?_
  have e_h5 := hp_p1 _ _ h5
  try simp only [NN, NT, LN, simprocAttr, DT] at e_h5
  conv => arg 1; simp (disch := first | exact Zd | fail) only [ZZ, d207_at, simprocAttr, c4_p1, c3_p1, b4_p1, b3_p1, nm_p1, h1'', h1', fm_cut c_T_Val_len h4, fm_fit c_T_Val_len h4, fm_at c_T_Val_len h4, fm_at0 c_T_Val_len h4, e_h5]
  refine J.ite (fun h6 => ?_) (fun h6 => ?_)
  ·have h6' : x8 = true := h6
   refine J.some ?_
   simp (maxSteps := 20000000) (disch := first | exact Zd | fail) only [ZZ, d207_at, simprocAttr, c4_p1, c3_p1, b4_p1, b3_p1, nm_p1, h1'', h1', fm_cut c_T_Val_len h4, fm_fit c_T_Val_len h4, fm_at c_T_Val_len h4, fm_at0 c_T_Val_len h4, e_h5, h6', FN]
  ·have h6' : x8 = false := Bool.eq_false_iff.2 h6
   conv => arg 1; simp (disch := first | exact Zd | fail) only [ZZ, d207_at, simprocAttr, c4_p1, c3_p1, b4_p1, b3_p1, nm_p1, h1'', h1', fm_cut c_T_Val_len h4, fm_fit c_T_Val_len h4, fm_at c_T_Val_len h4, fm_at0 c_T_Val_len h4, e_h5, h6']
   refine J.eq ret_seq ?_
   conv => arg 1; simp (disch := first | exact Zd | fail) only [ZZ, d207_at, simprocAttr, c4_p1, c3_p1, b4_p1, b3_p1, nm_p1, h1'', h1', fm_cut c_T_Val_len h4, fm_fit c_T_Val_len h4, fm_at c_T_Val_len h4, fm_at0 c_T_Val_len h4, e_h5, h6']
   refine J.next (s := wk .i64 (x4 + 1)) hn1 ?_ ?_
   ·exact Ze
   ·exact Zh
 ·have h1' := decide_eq_false h1
  have h1'' : decide ((x1.length : Int) ≤ x4) = true := decide_eq_true (by omega)
  conv => arg 1; simp (disch := first | exact Zd | fail) only [ZZ, d207_at, simprocAttr, c4_p1, c3_p1, b4_p1, b3_p1, nm_p1, h1'', h1']
  refine J.eq ret_seq ?_
  refine J.some ?_
  simp (maxSteps := 20000000) (disch := first | exact Zd | fail) only [ZZ, d207_at, simprocAttr, c4_p1, c3_p1, b4_p1, b3_p1, nm_p1, h1'', h1', FN]
noncomputable def t207 (fu : Nat) (x1 : List T_Val) (p1 : T_Val → Option Bool) (fv_p1 : FuncId) (ca_p1 : List AV) : CallP := orE fv_p1 (mkC (fun (t : T_Val) => ((.agg (c_T_Val t)) :: ca_p1 : List AV)) (fun t => p1 t) (fun r => .v (.bool r))) (noP)
theorem t207_ok (fu : Nat) (x1 : List T_Val) (p1 : T_Val → Option Bool) (fv_p1 : FuncId) (ca_p1 : List AV) (cap_p1 : Capt ca_p1) (hp_p1 : ∀ (y0 : T_Val) r, p1 y0 = some r → PureOK Tryz.prog fv_p1 ((.agg (c_T_Val y0)) :: ca_p1) (.v (.bool r))) : CpOK Tryz.prog (t207 fu x1 p1 fv_p1 ca_p1) := orE_ok (noP_ok) (mkC_ok (fun t b h => hp_p1 t b h))
theorem ok207 (fu : Nat) (x1 : List T_Val) (p1 : T_Val → Option Bool) (fv_p1 : FuncId) (ca_p1 : List AV) (cap_p1 : Capt ca_p1) (hp_p1 : ∀ (y0 : T_Val) r, p1 y0 = some r → PureOK Tryz.prog fv_p1 ((.agg (c_T_Val y0)) :: ca_p1) (.v (.bool r))) (r) (h : slices_IndexFunc_api_Val_api_Val fu x1 p1 = some r) : PureOK Tryz.prog 207 [.arr x1.length (fm c_T_Val x1), .fn fv_p1 [] ca_p1] (e207 r) :=
  pure_J mixed (cp := t207 fu x1 p1 fv_p1 ca_p1) (t207_ok fu x1 p1 fv_p1 ca_p1 cap_p1 hp_p1) noI_ok i207 (w207 _ fu x1 p1 fv_p1 ca_p1 cap_p1 (fun y0 r h => orE_hit (mkC_at (a := y0) (by intro a b h; first | (exact rfl) | (simp only [INJ, IJ] at h; first | exact h | (simp_all [Prod.ext_iff]) )) h)) ) h
open Aw (d144)
def d144_at := by have h := tabL Aw.d144.eq_1; simp only [AllAt, Nat.zero_add, Nat.reduceAdd] at h; exact h
theorem i144 : finfo Tryz.prog 144 d144 = some ⟨bodyOf Tryz.f144, [.tmp 4], [4]⟩ := finfo_at Tryz.func144 rfl (by kernel_rfl) (by kernel_rfl)
def e144 : Bool → AV := fun r => .v (.bool r)
set_option maxHeartbeats 20000000 in
theorem w144 (cp : CallP) (fu : Nat) (x1 : List T_Val) (p1 : T_Val → Option Bool) (fv_p1 : FuncId) (ca_p1 : List AV) (cap_p1 : Capt ca_p1) (hp_p1 : ∀ (y0 : T_Val) r, p1 y0 = some r → cp fv_p1 ((.agg (c_T_Val y0)) :: ca_p1) = some (.v (.bool r))) (H207_0 : ∀ (a0 : List T_Val) r, slices_IndexFunc_api_Val_api_Val fu a0 p1 = some r → cp 207 [.arr a0.length (fm c_T_Val a0), .fn fv_p1 [] ca_p1] = some (.v (.int .i64 r))) : J (go Tryz.prog noC cp noI 0 [] d144 fu (fin Tryz.prog [.tmp 4] [4]) (bodyOf Tryz.f144) (initE 0 [.arr x1.length (fm c_T_Val x1), .fn fv_p1 [] ca_p1]) [] []) (slices_ContainsFunc_api_Val_api_Val fu x1 p1) e144 := by
 unfold slices_ContainsFunc_api_Val_api_Val e144
 have da := d144_at
 have c4_p1 := fun g => (cap_p1.1 g).1; have c3_p1 := fun g => (cap_p1.1 g).2.1; have b4_p1 := fun g => (cap_p1.1 g).2.2.1; have b3_p1 := fun g => (cap_p1.1 g).2.2.2; have nm_p1 := cap_p1.2
 refine J.bind fun x2 h1 => ?_
 have e_h1 := H207_0 _ _ h1
 try simp only [NN, NT, LN, simprocAttr, DT] at e_h1
 refine J.some ?_
 simp (maxSteps := 20000000) (disch := first | exact Zd | fail) only [bodyOf, Tryz.f144, ZZ, d144_at, simprocAttr, c4_p1, c3_p1, b4_p1, b3_p1, nm_p1, e_h1, FN]
noncomputable def t144 (fu : Nat) (x1 : List T_Val) (p1 : T_Val → Option Bool) (fv_p1 : FuncId) (ca_p1 : List AV) : CallP := orE 207 (mkC (fun (t : List T_Val) => ([.arr t.length (fm c_T_Val t), .fn fv_p1 [] ca_p1] : List AV)) (fun t => slices_IndexFunc_api_Val_api_Val fu t p1) e207) (orE fv_p1 (mkC (fun (t : T_Val) => ((.agg (c_T_Val t)) :: ca_p1 : List AV)) (fun t => p1 t) (fun r => .v (.bool r))) (noP))
theorem t144_ok (fu : Nat) (x1 : List T_Val) (p1 : T_Val → Option Bool) (fv_p1 : FuncId) (ca_p1 : List AV) (cap_p1 : Capt ca_p1) (hp_p1 : ∀ (y0 : T_Val) r, p1 y0 = some r → PureOK Tryz.prog fv_p1 ((.agg (c_T_Val y0)) :: ca_p1) (.v (.bool r))) : CpOK Tryz.prog (t144 fu x1 p1 fv_p1 ca_p1) := orE_ok (orE_ok (noP_ok) (mkC_ok (fun t b h => hp_p1 t b h))) (mkC_ok (fun t b h => ok207 fu t p1 fv_p1 ca_p1 cap_p1 hp_p1 b h))
theorem ok144 (fu : Nat) (x1 : List T_Val) (p1 : T_Val → Option Bool) (fv_p1 : FuncId) (ca_p1 : List AV) (cap_p1 : Capt ca_p1) (hp_p1 : ∀ (y0 : T_Val) r, p1 y0 = some r → PureOK Tryz.prog fv_p1 ((.agg (c_T_Val y0)) :: ca_p1) (.v (.bool r))) (r) (h : slices_ContainsFunc_api_Val_api_Val fu x1 p1 = some r) : PureOK Tryz.prog 144 [.arr x1.length (fm c_T_Val x1), .fn fv_p1 [] ca_p1] (e144 r) :=
  pure_J mixed (cp := t144 fu x1 p1 fv_p1 ca_p1) (t144_ok fu x1 p1 fv_p1 ca_p1 cap_p1 hp_p1) noI_ok i144 (w144 _ fu x1 p1 fv_p1 ca_p1 cap_p1 (fun y0 r h => orE_skip (fun hfv => mkC_none (by intro t h; simp at h)) (orE_hit (mkC_at (a := y0) (by intro a b h; first | (exact rfl) | (simp only [INJ, IJ] at h; first | exact h | (simp_all [Prod.ext_iff]) )) h))) (fun a0 r h => orE_hit (mkC_at (a := a0) (by intro a b h; first | (exact rfl) | (simp only [INJ, IJ] at h; first | exact h | (simp_all [Prod.ext_iff]) )) h))) h
open Aw (d104)
def d104_at := by have h := tabL Aw.d104.eq_1; simp only [AllAt, Nat.zero_add, Nat.reduceAdd] at h; exact h
theorem i104 : finfo Tryz.prog 104 d104 = some ⟨bodyOf Tryz.f104, [.tmp 4], [4]⟩ := finfo_at Tryz.func104 rfl (by kernel_rfl) (by kernel_rfl)
def e104 : Bool → AV := fun r => .v (.bool r)
def slices_Equal_int.m1 : LJ 1 8 Unit Int := ⟨fun r s e => [(0, er e 0), (1, er e 1), (12, er e 12), (13, .v (.int .i64 s))], fun r s h => []⟩
set_option maxHeartbeats 20000000 in
open slices_Equal_int in
theorem w104 (cp : CallP) (fu : Nat) (x1 : List Int) (x2 : List Int)  : J (go Tryz.prog noC cp noI 0 [] d104 fu (fin Tryz.prog [.tmp 4] [4]) (bodyOf Tryz.f104) (initE 0 [.arr x1.length (lm (ik .i64) x1), .arr x2.length (lm (ik .i64) x2)]) [] []) (slices_Equal_int fu x1 x2) e104 := by
 unfold slices_Equal_int e104
 have da := d104_at
 conv => arg 1; simp only [bodyOf, Tryz.f104]
 have z0 := d104_at
 exact Wk
theorem ok104 (fu : Nat) (x1 : List Int) (x2 : List Int) (r) (h : slices_Equal_int fu x1 x2 = some r) : PureOK Tryz.prog 104 [.arr x1.length (lm (ik .i64) x1), .arr x2.length (lm (ik .i64) x2)] (e104 r) := pureT mixed [] (ids := []) rfl (by decide) i104 (C := noC) (ci := fun cp => noI) (fun cp ok => noI_ok) (fun cp H => w104 cp fu x1 x2 ) h
def d146 : List (Nat × List Nat) := [(0, [0, 2]), (0, []), (0, [1, 3, 4, 5, 6, 7, 8, 9, 10, 11, 12, 13, 14, 15, 16, 17, 18, 19, 20, 21, 22, 23, 24, 25, 26])]
def d146_at := by have h := tabL d146.eq_1; simp only [AllAt, Nat.zero_add, Nat.reduceAdd] at h; exact h
theorem i146 : finfo Tryz.prog 146 d146 = some ⟨bodyOf Tryz.f146, [.tmp 2], [4]⟩ := finfo_at Tryz.func146 rfl (by kernel_rfl) (by kernel_rfl)
def e146 : Bool → AV := fun r => .v (.bool r)
structure K23 (fu : Nat) (cp : CallP) : Prop where
 ap : ∀ {a0 : T_Tensor} {r}, tens_Check fu a0 = some r → cp 23 [.agg (c_T_Tensor a0)] = some (.v (.int .i64 r))
noncomputable def C23 (fu : Nat) : Cm Tryz.prog T_Tensor Int := ⟨23, fun t => [.agg (c_T_Tensor t)], fun t => tens_Check fu t, e23, fun t b h => ok23 fu t  b h, Zi⟩
theorem u23 {fu : Nat} {cp : CallP} (H : Hit cp (C23 fu).ct) : K23 fu cp := ⟨fun {a0 r} h => (C23 fu).at H a0 r h⟩
structure K104 (fu : Nat) (cp : CallP) : Prop where
 ap : ∀ {a0 : List Int} {a1 : List Int} {r}, slices_Equal_int fu a0 a1 = some r → cp 104 [.arr a0.length (lm (ik .i64) a0), .arr a1.length (lm (ik .i64) a1)] = some (.v (.bool r))
noncomputable def C104 (fu : Nat) : Cm Tryz.prog ((List Int) × (List Int)) Bool := ⟨104, fun t => [.arr t.1.length (lm (ik .i64) t.1), .arr t.2.length (lm (ik .i64) t.2)], fun t => slices_Equal_int fu t.1 t.2, e104, fun t b h => ok104 fu t.1 t.2  b h, Zi⟩
theorem u104 {fu : Nat} {cp : CallP} (H : Hit cp (C104 fu).ct) : K104 fu cp := ⟨fun {a0 a1 r} h => (C104 fu).at H (a0, a1) r h⟩
set_option maxHeartbeats 20000000 in
theorem w146 (cp : CallP) (fu : Nat) (x1 : T_Val) (H1 : K23 fu cp) (H2 : K104 fu cp) : J (go Tryz.prog noC cp noI 0 [] d146 fu (fin Tryz.prog [.tmp 2] [4]) (bodyOf Tryz.f146) (initE 0 [.agg (c_T_Val x1)]) [] []) (infer_held fu x1) e146 := by
 unfold infer_held e146
 have da := d146_at
 conv => arg 1; simp only [bodyOf, Tryz.f146]
 have z0 := d146_at
 exact Wk
theorem ok146 (fu : Nat) (x1 : T_Val) (r) (h : infer_held fu x1 = some r) : PureOK Tryz.prog 146 [.agg (c_T_Val x1)] (e146 r) := pureT mixed [(C23 fu).ct, (C104 fu).ct] (ids := [23, 104]) rfl (by decide) i146 (C := noC) (ci := fun cp => noI) (fun cp ok => noI_ok) (fun cp H => w146 cp fu x1 (u23 H.1) (u104 H.2.1)) h
def d145 : List (Nat × List Nat) := [(0, [0, 2]), (0, []), (0, [1, 3, 4, 5])]
def d145_at := by have h := tabL d145.eq_1; simp only [AllAt, Nat.zero_add, Nat.reduceAdd] at h; exact h
theorem i145 : finfo Tryz.prog 145 d145 = some ⟨bodyOf Tryz.f145, [.tmp 2], [4]⟩ := finfo_at Tryz.func145 rfl (by kernel_rfl) (by kernel_rfl)
def e145 : Bool → AV := fun r => .v (.bool r)
structure K146 (fu : Nat) (cp : CallP) : Prop where
 ap : ∀ {a0 : T_Val} {r}, infer_held fu a0 = some r → cp 146 [.agg (c_T_Val a0)] = some (.v (.bool r))
noncomputable def C146 (fu : Nat) : Cm Tryz.prog T_Val Bool := ⟨146, fun t => [.agg (c_T_Val t)], fun t => infer_held fu t, e146, fun t b h => ok146 fu t  b h, Zi⟩
theorem u146 {fu : Nat} {cp : CallP} (H : Hit cp (C146 fu).ct) : K146 fu cp := ⟨fun {a0 r} h => (C146 fu).at H a0 r h⟩
set_option maxHeartbeats 20000000 in
theorem w145 (cp : CallP) (fu : Nat) (x1 : T_Val) (H1 : K146 fu cp) : J (go Tryz.prog noC cp noI 0 [] d145 fu (fin Tryz.prog [.tmp 2] [4]) (bodyOf Tryz.f145) (initE 0 [.agg (c_T_Val x1)]) [] []) (infer_ask_told_1 fu x1) e145 := by
 unfold infer_ask_told_1 e145
 have da := d145_at
 conv => arg 1; simp only [bodyOf, Tryz.f145]
 have z0 := d145_at
 exact Wk
theorem ok145 (fu : Nat) (x1 : T_Val) (r) (h : infer_ask_told_1 fu x1 = some r) : PureOK Tryz.prog 145 [.agg (c_T_Val x1)] (e145 r) := pureT mixed [(C146 fu).ct] (ids := [146]) rfl (by decide) i145 (C := noC) (ci := fun cp => noI) (fun cp ok => noI_ok) (fun cp H => w145 cp fu x1 (u146 H.1)) h
def d147 : List (Nat × List Nat) := [(0, [0, 2]), (0, []), (0, [1, 3, 4, 5, 6])]
def d147_at := by have h := tabL d147.eq_1; simp only [AllAt, Nat.zero_add, Nat.reduceAdd] at h; exact h
theorem i147 : finfo Tryz.prog 147 d147 = some ⟨bodyOf Tryz.f147, [.tmp 2], [4]⟩ := finfo_at Tryz.func147 rfl (by kernel_rfl) (by kernel_rfl)
def e147 : Bool → AV := fun r => .v (.bool r)
set_option maxHeartbeats 20000000 in
theorem w147 (cp : CallP) (fu : Nat) (x1 : T_Val)  : J (go Tryz.prog noC cp noI 0 [] d147 fu (fin Tryz.prog [.tmp 2] [4]) (bodyOf Tryz.f147) (initE 0 [.agg (c_T_Val x1)]) [] []) (infer_ask_told_2 fu x1) e147 := by
 unfold infer_ask_told_2 e147
 have da := d147_at
 conv => arg 1; simp only [bodyOf, Tryz.f147]
 have z0 := d147_at
 exact Wk
theorem ok147 (fu : Nat) (x1 : T_Val) (r) (h : infer_ask_told_2 fu x1 = some r) : PureOK Tryz.prog 147 [.agg (c_T_Val x1)] (e147 r) := pureT mixed [] (ids := []) rfl (by decide) i147 (C := noC) (ci := fun cp => noI) (fun cp ok => noI_ok) (fun cp H => w147 cp fu x1 ) h
def d208 : List (Nat × List Nat) := [(0, [4]), (0, [0, 1, 7, 8]), (0, [6]), (0, [5]), (0, []), (0, []), (0, [10]), (0, []), (0, [11, 12, 13, 14, 15]), (0, []), (0, [17]), (0, []), (0, [18]), (0, []), (0, [])]
def d208_at := by have h := tabL d208.eq_1; simp only [AllAt, Nat.zero_add, Nat.reduceAdd] at h; exact h
theorem i208 : finfo Tryz.prog 208 d208 = some ⟨bodyOf Tryz.f208, [.tmp 4], [3]⟩ := finfo_at Tryz.func208 rfl (by kernel_rfl) (by kernel_rfl)
def e208 : Int → AV := fun r => .v (.int .i64 r)
set_option maxHeartbeats 20000000 in
theorem w208 (cp : CallP) (fu : Nat) (x1 : List Int) (p1 : Int → Option Bool) (fv_p1 : FuncId) (ca_p1 : List AV) (cap_p1 : Capt ca_p1) (hp_p1 : ∀ (y0 : Int) r, p1 y0 = some r → cp fv_p1 ((.v (.int .i64 y0)) :: ca_p1) = some (.v (.bool r))) : J (go Tryz.prog noC cp noI 0 [] d208 fu (fin Tryz.prog [.tmp 4] [3]) (bodyOf Tryz.f208) (initE 0 [.arr x1.length (lm (ik .i64) x1), .fn fv_p1 [] ca_p1]) [] []) (slices_IndexFunc_int64 fu x1 p1) e208 := by
 unfold slices_IndexFunc_int64 e208
 have da := d208_at
 have c4_p1 := fun g => (cap_p1.1 g).1; have c3_p1 := fun g => (cap_p1.1 g).2.1; have b4_p1 := fun g => (cap_p1.1 g).2.2.1; have b3_p1 := fun g => (cap_p1.1 g).2.2.2; have nm_p1 := cap_p1.2
 conv => arg 1; simp (disch := first | exact Zd | fail) only [bodyOf, Tryz.f208, ZZ, d208_at, simprocAttr, c4_p1, c3_p1, b4_p1, b3_p1, nm_p1]
 refine J.eq go_seq ?_
 conv => arg 1; simp (disch := first | exact Zd | fail) only [ZZ, d208_at, simprocAttr, c4_p1, c3_p1, b4_p1, b3_p1, nm_p1]
 unfold slices_IndexFunc_int64.W1
 refine J.loop (fun (s : Int) => ([(0, .arr x1.length (lm (ik .i64) x1)), (1, .fn fv_p1 [] ca_p1), (7, .v (.int .i64 (x1.length : Int))), (8, .v (.int .i64 s))], [])) (fun next s => slices_IndexFunc_int64.L1 fu p1 x1 next s) (s0 := 0) ?_ ?_ ?_
 ·exact Ze
 ·exact Zh
 rintro nx1 k1 hn1 x4
 show J _ (slices_IndexFunc_int64.L1 fu p1 x1 nx1 x4) _
 unfold slices_IndexFunc_int64.L1
 conv => arg 1; simp (disch := first | exact Zd | fail) only [ZZ, d208_at, simprocAttr, c4_p1, c3_p1, b4_p1, b3_p1, nm_p1]
 refine J.eq go_seq ?_
 conv => arg 1; simp (disch := first | exact Zd | fail) only [ZZ, d208_at, simprocAttr, c4_p1, c3_p1, b4_p1, b3_p1, nm_p1]
 refine J.ite (fun h1 => ?_) (fun h1 => ?_)
 ·have h1' := decide_eq_true h1
  have h1'' : decide ((x1.length : Int) ≤ x4) = false := decide_eq_false (by omega)
  conv => arg 1; simp (disch := first | exact Zd | fail) only [ZZ, d208_at, simprocAttr, c4_p1, c3_p1, b4_p1, b3_p1, nm_p1, h1'', h1']
  refine J.eq ret_seq ?_
  refine J.eq go_seq ?_
  refine J.at fun x7 h2 h3 h4 => ?_
  refine J.bind fun x8 h5 => ?_
  have e_h5 := hp_p1 _ _ h5
  try simp only [NN, NT, LN, simprocAttr, DT] at e_h5
  conv => arg 1; simp (disch := first | exact Zd | fail) only [ZZ, d208_at, simprocAttr, c4_p1, c3_p1, b4_p1, b3_p1, nm_p1, h1'', h1', lm_ik h4, e_h5]
  refine J.ite (fun h6 => ?_) (fun h6 => ?_)
  ·have h6' : x8 = true := h6
   refine J.some ?_
   simp (maxSteps := 20000000) (disch := first | exact Zd | fail) only [ZZ, d208_at, simprocAttr, c4_p1, c3_p1, b4_p1, b3_p1, nm_p1, h1'', h1', lm_ik h4, e_h5, h6', FN]
  ·have h6' : x8 = false := Bool.eq_false_iff.2 h6
   conv => arg 1; simp (disch := first | exact Zd | fail) only [ZZ, d208_at, simprocAttr, c4_p1, c3_p1, b4_p1, b3_p1, nm_p1, h1'', h1', lm_ik h4, e_h5, h6']
   refine J.eq ret_seq ?_
   conv => arg 1; simp (disch := first | exact Zd | fail) only [ZZ, d208_at, simprocAttr, c4_p1, c3_p1, b4_p1, b3_p1, nm_p1, h1'', h1', lm_ik h4, e_h5, h6']
   refine J.next (s := wk .i64 (x4 + 1)) hn1 ?_ ?_
   ·exact Ze
   ·exact Zh
 ·have h1' := decide_eq_false h1
  have h1'' : decide ((x1.length : Int) ≤ x4) = true := decide_eq_true (by omega)
  conv => arg 1; simp (disch := first | exact Zd | fail) only [ZZ, d208_at, simprocAttr, c4_p1, c3_p1, b4_p1, b3_p1, nm_p1, h1'', h1']
  refine J.eq ret_seq ?_
  refine J.some ?_
  simp (maxSteps := 20000000) (disch := first | exact Zd | fail) only [ZZ, d208_at, simprocAttr, c4_p1, c3_p1, b4_p1, b3_p1, nm_p1, h1'', h1', FN]
noncomputable def t208 (fu : Nat) (x1 : List Int) (p1 : Int → Option Bool) (fv_p1 : FuncId) (ca_p1 : List AV) : CallP := orE fv_p1 (mkC (fun (t : Int) => ((.v (.int .i64 t)) :: ca_p1 : List AV)) (fun t => p1 t) (fun r => .v (.bool r))) (noP)
theorem t208_ok (fu : Nat) (x1 : List Int) (p1 : Int → Option Bool) (fv_p1 : FuncId) (ca_p1 : List AV) (cap_p1 : Capt ca_p1) (hp_p1 : ∀ (y0 : Int) r, p1 y0 = some r → PureOK Tryz.prog fv_p1 ((.v (.int .i64 y0)) :: ca_p1) (.v (.bool r))) : CpOK Tryz.prog (t208 fu x1 p1 fv_p1 ca_p1) := orE_ok (noP_ok) (mkC_ok (fun t b h => hp_p1 t b h))
theorem ok208 (fu : Nat) (x1 : List Int) (p1 : Int → Option Bool) (fv_p1 : FuncId) (ca_p1 : List AV) (cap_p1 : Capt ca_p1) (hp_p1 : ∀ (y0 : Int) r, p1 y0 = some r → PureOK Tryz.prog fv_p1 ((.v (.int .i64 y0)) :: ca_p1) (.v (.bool r))) (r) (h : slices_IndexFunc_int64 fu x1 p1 = some r) : PureOK Tryz.prog 208 [.arr x1.length (lm (ik .i64) x1), .fn fv_p1 [] ca_p1] (e208 r) :=
  pure_J mixed (cp := t208 fu x1 p1 fv_p1 ca_p1) (t208_ok fu x1 p1 fv_p1 ca_p1 cap_p1 hp_p1) noI_ok i208 (w208 _ fu x1 p1 fv_p1 ca_p1 cap_p1 (fun y0 r h => orE_hit (mkC_at (a := y0) (by intro a b h; first | (exact rfl) | (simp only [INJ, IJ] at h; first | exact h | (simp_all [Prod.ext_iff]) )) h)) ) h
def d149 : List (Nat × List Nat) := [(0, [4]), (0, []), (0, [0, 1, 5, 6, 7, 8])]
def d149_at := by have h := tabL d149.eq_1; simp only [AllAt, Nat.zero_add, Nat.reduceAdd] at h; exact h
theorem i149 : finfo Tryz.prog 149 d149 = some ⟨bodyOf Tryz.f149, [.tmp 4], [4]⟩ := finfo_at Tryz.func149 rfl (by kernel_rfl) (by kernel_rfl)
def e149 : Bool → AV := fun r => .v (.bool r)
set_option maxHeartbeats 20000000 in
theorem w149 (cp : CallP) (fu : Nat) (x1 : List Int) (p1 : Int → Option Bool) (fv_p1 : FuncId) (ca_p1 : List AV) (cap_p1 : Capt ca_p1) (hp_p1 : ∀ (y0 : Int) r, p1 y0 = some r → cp fv_p1 ((.v (.int .i64 y0)) :: ca_p1) = some (.v (.bool r))) (H208_0 : ∀ (a0 : List Int) r, slices_IndexFunc_int64 fu a0 p1 = some r → cp 208 [.arr a0.length (lm (ik .i64) a0), .fn fv_p1 [] ca_p1] = some (.v (.int .i64 r))) : J (go Tryz.prog noC cp noI 0 [] d149 fu (fin Tryz.prog [.tmp 4] [4]) (bodyOf Tryz.f149) (initE 0 [.arr x1.length (lm (ik .i64) x1), .fn fv_p1 [] ca_p1]) [] []) (slices_ContainsFunc_int64 fu x1 p1) e149 := by
 unfold slices_ContainsFunc_int64 e149
 have da := d149_at
 have c4_p1 := fun g => (cap_p1.1 g).1; have c3_p1 := fun g => (cap_p1.1 g).2.1; have b4_p1 := fun g => (cap_p1.1 g).2.2.1; have b3_p1 := fun g => (cap_p1.1 g).2.2.2; have nm_p1 := cap_p1.2
 refine J.bind fun x2 h1 => ?_
 have e_h1 := H208_0 _ _ h1
 try simp only [NN, NT, LN, simprocAttr, DT] at e_h1
 refine J.some ?_
 simp (maxSteps := 20000000) (disch := first | exact Zd | fail) only [bodyOf, Tryz.f149, ZZ, d149_at, simprocAttr, c4_p1, c3_p1, b4_p1, b3_p1, nm_p1, e_h1, FN]
noncomputable def t149 (fu : Nat) (x1 : List Int) (p1 : Int → Option Bool) (fv_p1 : FuncId) (ca_p1 : List AV) : CallP := orE 208 (mkC (fun (t : List Int) => ([.arr t.length (lm (ik .i64) t), .fn fv_p1 [] ca_p1] : List AV)) (fun t => slices_IndexFunc_int64 fu t p1) e208) (orE fv_p1 (mkC (fun (t : Int) => ((.v (.int .i64 t)) :: ca_p1 : List AV)) (fun t => p1 t) (fun r => .v (.bool r))) (noP))
theorem t149_ok (fu : Nat) (x1 : List Int) (p1 : Int → Option Bool) (fv_p1 : FuncId) (ca_p1 : List AV) (cap_p1 : Capt ca_p1) (hp_p1 : ∀ (y0 : Int) r, p1 y0 = some r → PureOK Tryz.prog fv_p1 ((.v (.int .i64 y0)) :: ca_p1) (.v (.bool r))) : CpOK Tryz.prog (t149 fu x1 p1 fv_p1 ca_p1) := orE_ok (orE_ok (noP_ok) (mkC_ok (fun t b h => hp_p1 t b h))) (mkC_ok (fun t b h => ok208 fu t p1 fv_p1 ca_p1 cap_p1 hp_p1 b h))
theorem ok149 (fu : Nat) (x1 : List Int) (p1 : Int → Option Bool) (fv_p1 : FuncId) (ca_p1 : List AV) (cap_p1 : Capt ca_p1) (hp_p1 : ∀ (y0 : Int) r, p1 y0 = some r → PureOK Tryz.prog fv_p1 ((.v (.int .i64 y0)) :: ca_p1) (.v (.bool r))) (r) (h : slices_ContainsFunc_int64 fu x1 p1 = some r) : PureOK Tryz.prog 149 [.arr x1.length (lm (ik .i64) x1), .fn fv_p1 [] ca_p1] (e149 r) :=
  pure_J mixed (cp := t149 fu x1 p1 fv_p1 ca_p1) (t149_ok fu x1 p1 fv_p1 ca_p1 cap_p1 hp_p1) noI_ok i149 (w149 _ fu x1 p1 fv_p1 ca_p1 cap_p1 (fun y0 r h => orE_skip (fun hfv => mkC_none (by intro t h; simp at h)) (orE_hit (mkC_at (a := y0) (by intro a b h; first | (exact rfl) | (simp only [INJ, IJ] at h; first | exact h | (simp_all [Prod.ext_iff]) )) h))) (fun a0 r h => orE_hit (mkC_at (a := a0) (by intro a b h; first | (exact rfl) | (simp only [INJ, IJ] at h; first | exact h | (simp_all [Prod.ext_iff]) )) h))) h
def d150 : List (Nat × List Nat) := [(0, [2]), (0, []), (0, [0, 3, 4])]
def d150_at := by have h := tabL d150.eq_1; simp only [AllAt, Nat.zero_add, Nat.reduceAdd] at h; exact h
theorem i150 : finfo Tryz.prog 150 d150 = some ⟨bodyOf Tryz.f150, [.tmp 2], [4]⟩ := finfo_at Tryz.func150 rfl (by kernel_rfl) (by kernel_rfl)
def e150 : Bool → AV := fun r => .v (.bool r)
set_option maxHeartbeats 20000000 in
theorem w150 (cp : CallP) (fu : Nat) (x1 : Int)  : J (go Tryz.prog noC cp noI 0 [] d150 fu (fin Tryz.prog [.tmp 2] [4]) (bodyOf Tryz.f150) (initE 0 [.v (.int .i64 x1)]) [] []) (infer_ask_told_3_1 fu x1) e150 := by
 unfold infer_ask_told_3_1 e150
 have da := d150_at
 conv => arg 1; simp only [bodyOf, Tryz.f150]
 have z0 := d150_at
 exact Wk
theorem ok150 (fu : Nat) (x1 : Int) (r) (h : infer_ask_told_3_1 fu x1 = some r) : PureOK Tryz.prog 150 [.v (.int .i64 x1)] (e150 r) := pureT mixed [] (ids := []) rfl (by decide) i150 (C := noC) (ci := fun cp => noI) (fun cp ok => noI_ok) (fun cp H => w150 cp fu x1 ) h
def d148 : List (Nat × List Nat) := [(0, [0, 2]), (0, []), (0, [1, 3, 4, 5, 6])]
def d148_at := by have h := tabL d148.eq_1; simp only [AllAt, Nat.zero_add, Nat.reduceAdd] at h; exact h
theorem i148 : finfo Tryz.prog 148 d148 = some ⟨bodyOf Tryz.f148, [.tmp 2], [4]⟩ := finfo_at Tryz.func148 rfl (by kernel_rfl) (by kernel_rfl)
def e148 : Bool → AV := fun r => .v (.bool r)
structure K149 (fu : Nat) (cp : CallP) : Prop where
 ap : ∀ {a0 : List Int} {r}, slices_ContainsFunc_int64 fu a0 (fun y0 => infer_ask_told_3_1 fu y0) = some r → cp 149 [.arr a0.length (lm (ik .i64) a0), .fn 150 [] []] = some (.v (.bool r))
noncomputable def C149 (fu : Nat) : Cm Tryz.prog (List Int) Bool := ⟨149, fun t => [.arr t.length (lm (ik .i64) t), .fn 150 [] []], fun t => slices_ContainsFunc_int64 fu t (fun y0 => infer_ask_told_3_1 fu y0), e149, fun t b h => ok149 fu t (fun y0 => infer_ask_told_3_1 fu y0) 150 [] Capt.nil (fun y0 r h => ok150 fu y0  r h) b h, Zi⟩
theorem u149 {fu : Nat} {cp : CallP} (H : Hit cp (C149 fu).ct) : K149 fu cp := ⟨fun {a0 r} h => (C149 fu).at H a0 r h⟩
set_option maxHeartbeats 20000000 in
theorem w148 (cp : CallP) (fu : Nat) (x1 : T_Val) (H1 : K149 fu cp) : J (go Tryz.prog noC cp noI 0 [] d148 fu (fin Tryz.prog [.tmp 2] [4]) (bodyOf Tryz.f148) (initE 0 [.agg (c_T_Val x1)]) [] []) (infer_ask_told_3 fu x1) e148 := by
 unfold infer_ask_told_3 e148
 have da := d148_at
 conv => arg 1; simp only [bodyOf, Tryz.f148]
 have z0 := d148_at
 exact Wk
theorem ok148 (fu : Nat) (x1 : T_Val) (r) (h : infer_ask_told_3 fu x1 = some r) : PureOK Tryz.prog 148 [.agg (c_T_Val x1)] (e148 r) := pureT mixed [(C149 fu).ct] (ids := [149]) rfl (by decide) i148 (C := noC) (ci := fun cp => noI) (fun cp ok => noI_ok) (fun cp H => w148 cp fu x1 (u149 H.1)) h
open Aw (d88)
def d88_at := by have h := tabL Aw.d88.eq_1; simp only [AllAt, Nat.zero_add, Nat.reduceAdd] at h; exact h
theorem i88 : finfo Tryz.prog 88 d88 = some ⟨bodyOf Tryz.f88, [.tmp 2], [35]⟩ := finfo_at Tryz.func88 rfl (by kernel_rfl) (by kernel_rfl)
def e88 : Int → AV := fun r => .v (.int .i64 r)
set_option maxHeartbeats 20000000 in
theorem w88 (cp : CallP) (fu : Nat) (x1 : T_infer_ask) (H143_0 : ∀ (a0 : T_infer_ask) r, infer_ask_lists fu a0 = some r → cp 143 [.agg (c_T_infer_ask a0)] = some (.fresh 8 r.length (fm c_T_Val r))) (H144_0 : ∀ (a0 : List T_Val) r, slices_ContainsFunc_api_Val_api_Val fu a0 (fun y0 => infer_ask_told_1 fu y0) = some r → cp 144 [.arr a0.length (fm c_T_Val a0), .fn 145 [] []] = some (.v (.bool r))) (H144_1 : ∀ (a0 : List T_Val) r, slices_ContainsFunc_api_Val_api_Val fu a0 (fun y0 => infer_ask_told_2 fu y0) = some r → cp 144 [.arr a0.length (fm c_T_Val a0), .fn 147 [] []] = some (.v (.bool r))) (H144_2 : ∀ (a0 : List T_Val) r, slices_ContainsFunc_api_Val_api_Val fu a0 (fun y0 => infer_ask_told_3 fu y0) = some r → cp 144 [.arr a0.length (fm c_T_Val a0), .fn 148 [] []] = some (.v (.bool r))) : J (go Tryz.prog noC cp noI 0 [] d88 fu (fin Tryz.prog [.tmp 2] [35]) (bodyOf Tryz.f88) (initE 0 [.agg (c_T_infer_ask x1)]) [] []) (infer_ask_told fu x1) e88 := by
 unfold infer_ask_told e88
 have da := d88_at
 refine J.chk fun h1 => ?_
 refine J.bind fun x2 h2 => ?_
 have e_h2 := H143_0 _ _ h2
 try simp only [NN, NT, LN, simprocAttr, DT] at e_h2
 conv => arg 1; simp (disch := first | exact Zd | fail) only [bodyOf, Tryz.f88, ZZ, d88_at, simprocAttr, h1, e_h2]
 refine J.eq go_seq ?_
 refine J.bind fun x3 h3 => ?_
 have e_h3 := H144_0 _ _ h3
 try simp only [NN, NT, LN, simprocAttr, DT] at e_h3
 refine Jc ?_
 refine J.ite (fun h4 => ?_) (fun h4 => ?_)
 ·have h4' : x3 = true := h4
  refine J.some ?_
  exact Js
 ·have h4' : x3 = false := Bool.eq_false_iff.2 h4
  refine J.bind fun x4 h5 => ?_
  have e_h5 := H144_1 _ _ h5
  try simp only [NN, NT, LN, simprocAttr, DT] at e_h5
  refine Jc ?_
  refine J.ite (fun h6 => ?_) (fun h6 => ?_)
  ·have h6' : x4 = true := h6
   refine J.some ?_
   exact Js
  ·have h6' : x4 = false := Bool.eq_false_iff.2 h6
   refine Jc ?_
   refine J.eq go_seq ?_
   refine J.bind fun x5 h7 => ?_
   have e_h7 := H144_2 _ _ h7
   try simp only [NN, NT, LN, simprocAttr, DT] at e_h7
   refine Jc ?_
   refine J.eq ret_seq ?_
   refine Jc ?_
   refine J.ite (fun h8 => ?_) (fun h8 => ?_)
   ·have h8' : x5 = true := h8
    refine J.some ?_
    exact Js
   ·have h8' : x5 = false := Bool.eq_false_iff.2 h8
    refine Jc ?_
    refine J.eq ret_seq ?_
    refine J.some ?_
    exact Js
noncomputable def t88 (fu : Nat) : CallP := orE 143 (mkC (fun (t : T_infer_ask) => ([.agg (c_T_infer_ask t)] : List AV)) (fun t => infer_ask_lists fu t) e143) (orE 144 (mkC (fun (t : List T_Val) => ([.arr t.length (fm c_T_Val t), .fn 145 [] []] : List AV)) (fun t => slices_ContainsFunc_api_Val_api_Val fu t (fun y0 => infer_ask_told_1 fu y0)) e144) (orE 144 (mkC (fun (t : List T_Val) => ([.arr t.length (fm c_T_Val t), .fn 147 [] []] : List AV)) (fun t => slices_ContainsFunc_api_Val_api_Val fu t (fun y0 => infer_ask_told_2 fu y0)) e144) (orE 144 (mkC (fun (t : List T_Val) => ([.arr t.length (fm c_T_Val t), .fn 148 [] []] : List AV)) (fun t => slices_ContainsFunc_api_Val_api_Val fu t (fun y0 => infer_ask_told_3 fu y0)) e144) (noP))))
theorem t88_ok (fu : Nat) : CpOK Tryz.prog (t88 fu ) := orE_ok (orE_ok (orE_ok (orE_ok (noP_ok) (mkC_ok (fun t b h => ok144 fu t (fun y0 => infer_ask_told_3 fu y0) 148 [] Capt.nil (fun y0 r h => ok148 fu y0  r h) b h))) (mkC_ok (fun t b h => ok144 fu t (fun y0 => infer_ask_told_2 fu y0) 147 [] Capt.nil (fun y0 r h => ok147 fu y0  r h) b h))) (mkC_ok (fun t b h => ok144 fu t (fun y0 => infer_ask_told_1 fu y0) 145 [] Capt.nil (fun y0 r h => ok145 fu y0  r h) b h))) (mkC_ok (fun t b h => ok143 fu t  b h))
theorem ok88 (fu : Nat) (x1 : T_infer_ask) (r) (h : infer_ask_told fu x1 = some r) : PureOK Tryz.prog 88 [.agg (c_T_infer_ask x1)] (e88 r) :=
  pure_J mixed (cp := t88 fu ) (t88_ok fu  ) noI_ok i88 (w88 _ fu x1  (fun a0 r h => orE_hit (mkC_at (a := a0) (by intro a b h; first | (exact rfl) | (simp only [INJ, IJ] at h; first | exact h | (simp_all [Prod.ext_iff]) )) h)) (fun a0 r h => orE_miss (by decide) (orE_hit (mkC_at (a := a0) (by intro a b h; first | (exact rfl) | (simp only [INJ, IJ] at h; first | exact h | (simp_all [Prod.ext_iff]) )) h))) (fun a0 r h => orE_miss (by decide) (orE_next (mkC_none (by intro t h; simp at h)) (orE_hit (mkC_at (a := a0) (by intro a b h; first | (exact rfl) | (simp only [INJ, IJ] at h; first | exact h | (simp_all [Prod.ext_iff]) )) h)))) (fun a0 r h => orE_miss (by decide) (orE_next (mkC_none (by intro t h; simp at h)) (orE_next (mkC_none (by intro t h; simp at h)) (orE_hit (mkC_at (a := a0) (by intro a b h; first | (exact rfl) | (simp only [INJ, IJ] at h; first | exact h | (simp_all [Prod.ext_iff]) )) h)))))) h
open Aw (d41)
def d41_at := by have h := tabL Aw.d41.eq_1; simp only [AllAt, Nat.zero_add, Nat.reduceAdd] at h; exact h
theorem i41 : finfo Tryz.prog 41 d41 = some ⟨bodyOf Tryz.f41, [.tmp 2], [35]⟩ := finfo_at Tryz.func41 rfl (by kernel_rfl) (by kernel_rfl)
def e41 : Int → AV := fun r => .v (.int .i64 r)
structure K86 (fu : Nat) (cp : CallP) : Prop where
 ap : ∀ {a0 : T_infer_ask} {r}, infer_ask_typed fu a0 = some r → cp 86 [.agg (c_T_infer_ask a0)] = some (.v (.bool r))
noncomputable def C86 (fu : Nat) : Cm Tryz.prog T_infer_ask Bool := ⟨86, fun t => [.agg (c_T_infer_ask t)], fun t => infer_ask_typed fu t, e86, fun t b h => ok86 fu t  b h, Zi⟩
theorem u86 {fu : Nat} {cp : CallP} (H : Hit cp (C86 fu).ct) : K86 fu cp := ⟨fun {a0 r} h => (C86 fu).at H a0 r h⟩
structure K87 (fu : Nat) (cp : CallP) : Prop where
 ap : ∀ {a0 : T_infer_ask} {r}, infer_ask_attributes fu a0 = some r → cp 87 [.agg (c_T_infer_ask a0)] = some (.v (.bool r))
noncomputable def C87 (fu : Nat) : Cm Tryz.prog T_infer_ask Bool := ⟨87, fun t => [.agg (c_T_infer_ask t)], fun t => infer_ask_attributes fu t, e87, fun t b h => ok87 fu t  b h, Zi⟩
theorem u87 {fu : Nat} {cp : CallP} (H : Hit cp (C87 fu).ct) : K87 fu cp := ⟨fun {a0 r} h => (C87 fu).at H a0 r h⟩
structure K88 (fu : Nat) (cp : CallP) : Prop where
 ap : ∀ {a0 : T_infer_ask} {r}, infer_ask_told fu a0 = some r → cp 88 [.agg (c_T_infer_ask a0)] = some (.v (.int .i64 r))
noncomputable def C88 (fu : Nat) : Cm Tryz.prog T_infer_ask Int := ⟨88, fun t => [.agg (c_T_infer_ask t)], fun t => infer_ask_told fu t, e88, fun t b h => ok88 fu t  b h, Zi⟩
theorem u88 {fu : Nat} {cp : CallP} (H : Hit cp (C88 fu).ct) : K88 fu cp := ⟨fun {a0 r} h => (C88 fu).at H a0 r h⟩
def infer_ask_wrong.m1 : LJ 1 4 Unit Int := ⟨fun r s e => [(1, er e 1), (8, er e 8), (9, er e 9), (10, .v (.int .i64 s))], fun r s h => [((0, 1, 0), hr h (0, 1, 0))]⟩
def infer_ask_wrong.j1 : LJ 1 5 Unit Unit := ⟨fun r t e => [(1, er e 1)], fun r t h => [((0, 1, 0), hr h (0, 1, 0))]⟩
set_option maxHeartbeats 20000000 in
open infer_ask_wrong in
theorem w41 (cp : CallP) (fu : Nat) (x1 : T_infer_ask) (H1 : K27 fu cp) (H2 : K85 fu cp) (H3 : K86 fu cp) (H4 : K87 fu cp) (H5 : K88 fu cp) : J (go Tryz.prog noC cp noI 0 [] d41 fu (fin Tryz.prog [.tmp 2] [35]) (bodyOf Tryz.f41) (initE 0 [.agg (c_T_infer_ask x1)]) [] []) (infer_ask_wrong fu x1) e41 := by
 unfold infer_ask_wrong e41
 have da := d41_at
 conv => arg 1; simp only [bodyOf, Tryz.f41]
 have z0 := d41_at
 exact Wk
theorem ok41 (fu : Nat) (x1 : T_infer_ask) (r) (h : infer_ask_wrong fu x1 = some r) : PureOK Tryz.prog 41 [.agg (c_T_infer_ask x1)] (e41 r) := pureT mixed [(C27 fu).ct, (C85 fu).ct, (C86 fu).ct, (C87 fu).ct, (C88 fu).ct] (ids := [27, 85, 86, 87, 88]) rfl (by decide) i41 (C := noC) (ci := fun cp => noI) (fun cp ok => noI_ok) (fun cp H => w41 cp fu x1 (u27 H.1) (u85 H.2.1) (u86 H.2.2.1) (u87 H.2.2.2.1) (u88 H.2.2.2.2.1)) h
def d92 : List (Nat × List Nat) := [(0, [0, 1]), (0, []), (0, [])]
def d92_at := by have h := tabL d92.eq_1; simp only [AllAt, Nat.zero_add, Nat.reduceAdd] at h; exact h
theorem i92 : finfo Tryz.prog 92 d92 = some ⟨bodyOf Tryz.f92, [.tmp 0, .tmp 1], [67, 35]⟩ := finfo_at Tryz.func92 rfl (by kernel_rfl) (by kernel_rfl)
def e92 : ((List (List Int)) × Int) → AV := fun r => .tuple [.arr r.1.length (lm (avl (ik .i64)) r.1), .v (.int .i64 r.2)]
set_option maxHeartbeats 20000000 in
theorem w92 (cp : CallP) (fu : Nat)   : J (go Tryz.prog noC cp noI 0 [] d92 fu (finS Tryz.prog [.tmp 0, .tmp 1] [67, 35]) (bodyOf Tryz.f92) (initE 0 []) [] []) (infer_misfit fu) e92 := by
 unfold infer_misfit e92
 have da := d92_at
 conv => arg 1; simp only [bodyOf, Tryz.f92]
 have z0 := d92_at
 have z1 := SE
 exact Wk
theorem ok92 (fu : Nat)  (r) (h : infer_misfit fu = some r) : PureOK Tryz.prog 92 [] (e92 r) := pureST mixed [] (ids := []) rfl (by decide) i92 (C := noC) (ci := fun cp => noI) (fun cp ok => noI_ok) (fun cp H => w92 cp fu ) h
open Aw (d49)
def d49_at := by have h := tabL Aw.d49.eq_1; simp only [AllAt, Nat.zero_add, Nat.reduceAdd] at h; exact h
theorem i49 : finfo Tryz.prog 49 d49 = some ⟨bodyOf Tryz.f49, [.tmp 4, .tmp 5], [27, 35]⟩ := finfo_at Tryz.func49 rfl (by kernel_rfl) (by kernel_rfl)
def e49 : ((List Int) × Int) → AV := fun r => .tuple [.fresh 1 r.1.length (lm (ik .i64) r.1), .v (.int .i64 r.2)]
def shape_Broadcast.m1 : LJ 1 26 Unit ((List Int) × Int) := ⟨fun r s e => [(10, .own (0, 42, 0) 0 s.1.length s.1.length), (11, er e 11), (48, er e 48), (49, er e 49), (50, .v (.int .i64 s.2))], fun r s h => [((0, 42, 0), .sl true true 1 s.1.length (lm (ik .i64) s.1))]⟩
def shape_Broadcast.j3 : LJ 3 42 Unit (List Int) := ⟨fun r t e => [(10, .own (0, 42, 0) 0 t.length t.length)], fun r t h => [((0, 42, 0), .sl true true 1 t.length (lm (ik .i64) t))]⟩
def shape_Broadcast.j2 : LJ 2 20 Unit ((List Int) × (List Int)) := ⟨fun r t e => [(0, .arr t.1.length (lm (ik .i64) t.1)), (1, .arr t.2.length (lm (ik .i64) t.2))], fun r t h => []⟩
def shape_Broadcast.m2 : LJ 2 4 Unit ((List (List Int)) × Int) := ⟨fun r s e => [(0, er e 0), (1, er e 1), (19, .own (0, 19, 0) 0 s.1.length s.1.length), (20, er e 20), (21, .v (.int .i64 s.2))], fun r s h => [((0, 19, 0), .sl true true 1 s.1.length (lm (avl (ik .i64)) s.1))]⟩
def shape_Broadcast.j1 : LJ 1 16 Unit (List (List Int)) := ⟨fun r t e => [(0, er e 0), (1, er e 1)], fun r t h => [((0, 19, 0), .sl true true 1 t.length (lm (avl (ik .i64)) t))]⟩
set_option maxHeartbeats 20000000 in
open shape_Broadcast in
theorem w49 (cp : CallP) (fu : Nat) (x1 : List Int) (x2 : List Int) (H1 : K27 fu cp) (H2 : K44 fu cp) : J (go Tryz.prog noC cp noI 0 [] d49 fu (fin Tryz.prog [.tmp 4, .tmp 5] [27, 35]) (bodyOf Tryz.f49) (initE 0 [.arr x1.length (lm (ik .i64) x1), .arr x2.length (lm (ik .i64) x2)]) [] []) (shape_Broadcast fu x1 x2) e49 := by
 unfold shape_Broadcast e49
 have da := d49_at
 conv => arg 1; simp only [bodyOf, Tryz.f49]
 have z0 := d49_at
 exact Wk
theorem ok49 (fu : Nat) (x1 : List Int) (x2 : List Int) (r) (h : shape_Broadcast fu x1 x2 = some r) : PureOK Tryz.prog 49 [.arr x1.length (lm (ik .i64) x1), .arr x2.length (lm (ik .i64) x2)] (e49 r) := pureT mixed [(C27 fu).ct, (C44 fu).ct] (ids := [27, 44]) rfl (by decide) i49 (C := noC) (ci := fun cp => noI) (fun cp ok => noI_ok) (fun cp H => w49 cp fu x1 x2 (u27 H.1) (u44 H.2.1)) h
open Aw (d91)
def d91_at := by have h := tabL Aw.d91.eq_1; simp only [AllAt, Nat.zero_add, Nat.reduceAdd] at h; exact h
theorem i91 : finfo Tryz.prog 91 d91 = some ⟨bodyOf Tryz.f91, [.tmp 4], [35]⟩ := finfo_at Tryz.func91 rfl (by kernel_rfl) (by kernel_rfl)
def e91 : Int → AV := fun r => .v (.int .i64 r)
structure K49 (fu : Nat) (cp : CallP) : Prop where
 ap : ∀ {a0 : List Int} {a1 : List Int} {r}, shape_Broadcast fu a0 a1 = some r → cp 49 [.arr a0.length (lm (ik .i64) a0), .arr a1.length (lm (ik .i64) a1)] = some (.tuple [.fresh 1 r.1.length (lm (ik .i64) r.1), .v (.int .i64 r.2)])
noncomputable def C49 (fu : Nat) : Cm Tryz.prog ((List Int) × (List Int)) ((List Int) × Int) := ⟨49, fun t => [.arr t.1.length (lm (ik .i64) t.1), .arr t.2.length (lm (ik .i64) t.2)], fun t => shape_Broadcast fu t.1 t.2, e49, fun t b h => ok49 fu t.1 t.2  b h, Zi⟩
theorem u49 {fu : Nat} {cp : CallP} (H : Hit cp (C49 fu).ct) : K49 fu cp := ⟨fun {a0 a1 r} h => (C49 fu).at H (a0, a1) r h⟩
set_option maxHeartbeats 20000000 in
theorem w91 (cp : CallP) (fu : Nat) (x1 : List Int) (x2 : List Int) (H1 : K49 fu cp) (H2 : K104 fu cp) : J (go Tryz.prog noC cp noI 0 [] d91 fu (fin Tryz.prog [.tmp 4] [35]) (bodyOf Tryz.f91) (initE 0 [.arr x1.length (lm (ik .i64) x1), .arr x2.length (lm (ik .i64) x2)]) [] []) (infer_within fu x1 x2) e91 := by
 unfold infer_within e91
 have da := d91_at
 conv => arg 1; simp only [bodyOf, Tryz.f91]
 have z0 := d91_at
 exact Wk
theorem ok91 (fu : Nat) (x1 : List Int) (x2 : List Int) (r) (h : infer_within fu x1 x2 = some r) : PureOK Tryz.prog 91 [.arr x1.length (lm (ik .i64) x1), .arr x2.length (lm (ik .i64) x2)] (e91 r) := pureT mixed [(C49 fu).ct, (C104 fu).ct] (ids := [49, 104]) rfl (by decide) i91 (C := noC) (ci := fun cp => noI) (fun cp ok => noI_ok) (fun cp H => w91 cp fu x1 x2 (u49 H.1) (u104 H.2.1)) h
open Aw (d100)
def d100_at := by have h := tabL Aw.d100.eq_1; simp only [AllAt, Nat.zero_add, Nat.reduceAdd] at h; exact h
theorem i100 : finfo Tryz.prog 100 d100 = some ⟨bodyOf Tryz.f100, [.tmp 2, .tmp 3], [67, 35]⟩ := finfo_at Tryz.func100 rfl (by kernel_rfl) (by kernel_rfl)
def e100 : ((List (List Int)) × Int) → AV := fun r => .tuple [.arr r.1.length (lm (avl (ik .i64)) r.1), .v (.int .i64 r.2)]
set_option maxHeartbeats 20000000 in
theorem w100 (cp : CallP) (fu : Nat) (x1 : List Int)  : J (go Tryz.prog noC cp noI 0 [] d100 fu (finS Tryz.prog [.tmp 2, .tmp 3] [67, 35]) (bodyOf Tryz.f100) (initE 0 [.arr x1.length (lm (ik .i64) x1)]) [] []) (infer_one fu x1) e100 := by
 unfold infer_one e100
 have da := d100_at
 conv => arg 1; simp only [bodyOf, Tryz.f100]
 have z0 := d100_at
 have z1 := SE
 exact Wk
theorem ok100 (fu : Nat) (x1 : List Int) (r) (h : infer_one fu x1 = some r) : PureOK Tryz.prog 100 [.arr x1.length (lm (ik .i64) x1)] (e100 r) := pureST mixed [] (ids := []) rfl (by decide) i100 (C := noC) (ci := fun cp => noI) (fun cp ok => noI_ok) (fun cp H => w100 cp fu x1 ) h
def d151 : List (Nat × List Nat) := [(0, [4, 5, 6]), (0, [0, 2, 3]), (0, [7, 8]), (0, []), (0, [10, 11, 12, 13]), (0, []), (20461022922632640854861491178342245317382250595468, [14, 15, 16, 17, 18, 19, 20, 21, 22, 23, 24, 25, 26, 27])]
def d151_at := by have h := tabL d151.eq_1; simp only [AllAt, Nat.zero_add, Nat.reduceAdd] at h; exact h
noncomputable def b151 : Code := bodyOf Tryz.f151
theorem go_b151 {C : Cfg} {cp : CallP} {ci : CallI} {lvl : Nat} {prot : List Id} {D : List (Nat × List Nat)} {n : Nat} {K : KK} {e : Env} {h : Heap} {fs : List Fr} : go Tryz.prog C cp ci lvl prot D n K b151 e h fs = go Tryz.prog C cp ci lvl prot D n K (bodyOf Tryz.f151) e h fs := rfl
theorem i151 : finfo Tryz.prog 151 d151 = some ⟨b151, [], []⟩ := finfo_at Tryz.func151 rfl (by kernel_rfl) (by kernel_rfl)
open Aw (d96)
def d96_at := by have h := tabL Aw.d96.eq_1; simp only [AllAt, Nat.zero_add, Nat.reduceAdd] at h; exact h
theorem i96 : finfo Tryz.prog 96 d96 = some ⟨bodyOf Tryz.f96, [.tmp 2, .tmp 3], [67, 35]⟩ := finfo_at Tryz.func96 rfl (by kernel_rfl) (by kernel_rfl)
def e96 : ((List (List Int)) × Int) → AV := fun r => .tuple [.arr r.1.length (lm (avl (ik .i64)) r.1), .v (.int .i64 r.2)]
structure K92 (fu : Nat) (cp : CallP) : Prop where
 ap : ∀ {r}, infer_misfit fu = some r → cp 92 [] = some (.tuple [.arr r.1.length (lm (avl (ik .i64)) r.1), .v (.int .i64 r.2)])
noncomputable def C92 (fu : Nat) : Cm Tryz.prog Unit ((List (List Int)) × Int) := ⟨92, fun t => [], fun t => infer_misfit fu , e92, fun t b h => ok92 fu   b h, Zi⟩
theorem u92 {fu : Nat} {cp : CallP} (H : Hit cp (C92 fu).ct) : K92 fu cp := ⟨fun { r} h => (C92 fu).at H () r h⟩
structure K91 (fu : Nat) (cp : CallP) : Prop where
 ap : ∀ {a0 : List Int} {a1 : List Int} {r}, infer_within fu a0 a1 = some r → cp 91 [.arr a0.length (lm (ik .i64) a0), .arr a1.length (lm (ik .i64) a1)] = some (.v (.int .i64 r))
noncomputable def C91 (fu : Nat) : Cm Tryz.prog ((List Int) × (List Int)) Int := ⟨91, fun t => [.arr t.1.length (lm (ik .i64) t.1), .arr t.2.length (lm (ik .i64) t.2)], fun t => infer_within fu t.1 t.2, e91, fun t b h => ok91 fu t.1 t.2  b h, Zi⟩
theorem u91 {fu : Nat} {cp : CallP} (H : Hit cp (C91 fu).ct) : K91 fu cp := ⟨fun {a0 a1 r} h => (C91 fu).at H (a0, a1) r h⟩
structure K100 (fu : Nat) (cp : CallP) : Prop where
 ap : ∀ {a0 : List Int} {r}, infer_one fu a0 = some r → cp 100 [.arr a0.length (lm (ik .i64) a0)] = some (.tuple [.arr r.1.length (lm (avl (ik .i64)) r.1), .v (.int .i64 r.2)])
noncomputable def C100 (fu : Nat) : Cm Tryz.prog (List Int) ((List (List Int)) × Int) := ⟨100, fun t => [.arr t.length (lm (ik .i64) t)], fun t => infer_one fu t, e100, fun t b h => ok100 fu t  b h, Zi⟩
theorem u100 {fu : Nat} {cp : CallP} (H : Hit cp (C100 fu).ct) : K100 fu cp := ⟨fun {a0 r} h => (C100 fu).at H a0 r h⟩
def infer_ask_gemm.m1 : LJ 1 2 Unit ((List Int) × Int × Int) := ⟨fun r s e => [(0, er e 0), (2, .v (.int .i64 s.2.1)), (3, .v (.int .i64 s.2.2))], fun r s h => [((0, 1, 0), hr h (0, 1, 0)), ((0, 10, 0), hr h (0, 10, 0)), ((0, 13, 0), .sl true true 1 (hx h (0, 13, 0)) (lm (ik .i64) s.1))]⟩
def infer_ask_gemm.j3 : LJ 3 16 Unit (Bool × (List Int)) := ⟨fun r t e => [(1, er e 1), (4, er e 4), (5, .own (0, 13, 0) 0 t.2.length t.2.length)], fun r t h => [((0, 1, 0), bs (hr h (0, 1, 0)) 19 (.v (.bool t.1))), ((0, 10, 0), hr h (0, 10, 0)), ((0, 13, 0), .sl true true 1 t.2.length (lm (ik .i64) t.2))]⟩
def infer_ask_gemm.m2 : LJ 2 2 Unit ((List Int) × Int × Int) := ⟨fun r s e => [(0, er e 0), (2, .v (.int .i64 s.2.1)), (3, .v (.int .i64 s.2.2))], fun r s h => [((0, 1, 0), hr h (0, 1, 0)), ((0, 10, 0), .sl true true 1 (hx h (0, 10, 0)) (lm (ik .i64) s.1)), ((0, 13, 0), hr h (0, 13, 0))]⟩
def infer_ask_gemm.j2 : LJ 2 12 Unit (Bool × (List Int)) := ⟨fun r t e => [(1, er e 1), (4, .own (0, 10, 0) 0 t.2.length t.2.length), (5, er e 5)], fun r t h => [((0, 1, 0), bs (hr h (0, 1, 0)) 18 (.v (.bool t.1))), ((0, 10, 0), .sl true true 1 t.2.length (lm (ik .i64) t.2)), ((0, 13, 0), hr h (0, 13, 0))]⟩
def infer_ask_gemm.j1 : LJ 1 8 Unit Unit := ⟨fun r t e => [(1, er e 1), (4, er e 4), (5, er e 5)], fun r t h => [((0, 1, 0), hr h (0, 1, 0)), ((0, 10, 0), hr h (0, 10, 0)), ((0, 13, 0), hr h (0, 13, 0))]⟩
set_option maxHeartbeats 20000000 in
open infer_ask_gemm in
theorem w96 (cp : CallP) (fu : Nat) (x1 : T_infer_ask) (H1 : K89 fu cp) (H2 : K44 fu cp) (H3 : K92 fu cp) (H4 : K85 fu cp) (H5 : K91 fu cp) (H6 : K100 fu cp) : J (go Tryz.prog (inlC [151]) cp (ciE Tryz.prog (inlC [151]) cp noI fu 151 d151 ⟨b151, [], []⟩ noI) 0 [] d96 fu (finS Tryz.prog [.tmp 2, .tmp 3] [67, 35]) (bodyOf Tryz.f96) (initE 0 [.agg (c_T_infer_ask x1)]) [] []) (infer_ask_gemm fu x1) e96 := by
 unfold infer_ask_gemm e96
 have da := d96_at
 conv => arg 1; simp only [bodyOf, Tryz.f96]
 have z0 := d96_at
 have z1 := SE
 have z2 := RL
 have z3 := d151_at
 have z4 := Tryz.f151.eq_1
 have z5 := @go_b151
 have z6 := RI
 have z7 := RIk
 have z8 := @bodyOf.eq_1
 exact Wk
theorem ok96 (fu : Nat) (x1 : T_infer_ask) (r) (h : infer_ask_gemm fu x1 = some r) : PureOK Tryz.prog 96 [.agg (c_T_infer_ask x1)] (e96 r) := pureST mixed [(C89 fu).ct, (C44 fu).ct, (C92 fu).ct, (C85 fu).ct, (C91 fu).ct, (C100 fu).ct] (ids := [89, 44, 92, 85, 91, 100]) rfl (by decide) i96 (C := (inlC [151])) (ci := fun cp => (ciE Tryz.prog (inlC [151]) cp noI fu 151 d151 ⟨b151, [], []⟩ noI)) (fun cp ok => (ciE_ok mixed ok noI_ok i151 noI_ok)) (fun cp H => w96 cp fu x1 (u89 H.1) (u44 H.2.1) (u92 H.2.2.1) (u85 H.2.2.2.1) (u91 H.2.2.2.2.1) (u100 H.2.2.2.2.2.1)) h
open Aw (d42)
def d42_at := by have h := tabL Aw.d42.eq_1; simp only [AllAt, Nat.zero_add, Nat.reduceAdd] at h; exact h
theorem i42 : finfo Tryz.prog 42 d42 = some ⟨bodyOf Tryz.f42, [.tmp 2, .tmp 3], [67, 35]⟩ := finfo_at Tryz.func42 rfl (by kernel_rfl) (by kernel_rfl)
def e42 : ((List (List Int)) × Int) → AV := fun r => .tuple [.arr r.1.length (lm (avl (ik .i64)) r.1), .v (.int .i64 r.2)]
structure K96 (fu : Nat) (cp : CallP) : Prop where
 ap : ∀ {a0 : T_infer_ask} {r}, infer_ask_gemm fu a0 = some r → cp 96 [.agg (c_T_infer_ask a0)] = some (.tuple [.arr r.1.length (lm (avl (ik .i64)) r.1), .v (.int .i64 r.2)])
noncomputable def C96 (fu : Nat) : Cm Tryz.prog T_infer_ask ((List (List Int)) × Int) := ⟨96, fun t => [.agg (c_T_infer_ask t)], fun t => infer_ask_gemm fu t, e96, fun t b h => ok96 fu t  b h, Zi⟩
theorem u96 {fu : Nat} {cp : CallP} (H : Hit cp (C96 fu).ct) : K96 fu cp := ⟨fun {a0 r} h => (C96 fu).at H a0 r h⟩
def infer_ask_shapes.j3 : LJ 3 222 Unit Unit := ⟨fun r t e => [(1, er e 1), (4, er e 4), (9, er e 9), (10, er e 10), (54, er e 54), (78, .v (.bool (decide ((74 : Int) = 71))))], fun r t h => [((0, 1, 0), hr h (0, 1, 0))]⟩
def infer_ask_shapes.j2 : LJ 2 190 Unit Unit := ⟨fun r t e => [(1, er e 1), (4, er e 4), (9, er e 9), (10, er e 10), (54, .v (.bool (decide ((74 : Int) = 64))))], fun r t h => [((0, 1, 0), hr h (0, 1, 0))]⟩
def infer_ask_shapes.j1 : LJ 1 82 Unit Unit := ⟨fun r t e => [(1, er e 1), (4, er e 4), (9, er e 9), (10, .v (.bool (decide ((74 : Int) = 42))))], fun r t h => [((0, 1, 0), hr h (0, 1, 0))]⟩
set_option maxHeartbeats 20000000 in
open infer_ask_shapes in
theorem w42 (cp : CallP) (fu : Nat) (x1 : T_infer_ask) (H1 : K89 fu cp) (H2 : K96 fu cp) : J (go Tryz.prog noC cp noI 0 [] d42 fu (finS Tryz.prog [.tmp 2, .tmp 3] [67, 35]) (bodyOf Tryz.f42) (initE 0 [.agg (c_T_infer_ask x1)]) [] []) (infer_ask_shapes fu x1) e42 := by
 unfold infer_ask_shapes e42
 have da := d42_at
 conv => arg 1; simp only [bodyOf, Tryz.f42]
 have z0 := d42_at
 have z1 := SE
 exact Wk
theorem ok42 (fu : Nat) (x1 : T_infer_ask) (r) (h : infer_ask_shapes fu x1 = some r) : PureOK Tryz.prog 42 [.agg (c_T_infer_ask x1)] (e42 r) := pureST mixed [(C89 fu).ct, (C96 fu).ct] (ids := [89, 96]) rfl (by decide) i42 (C := noC) (ci := fun cp => noI) (fun cp ok => noI_ok) (fun cp H => w42 cp fu x1 (u89 H.1) (u96 H.2.1)) h
open Aw (d43)
def d43_at := by have h := tabL Aw.d43.eq_1; simp only [AllAt, Nat.zero_add, Nat.reduceAdd] at h; exact h
theorem i43 : finfo Tryz.prog 43 d43 = some ⟨bodyOf Tryz.f43, [.tmp 2], [3]⟩ := finfo_at Tryz.func43 rfl (by kernel_rfl) (by kernel_rfl)
def e43 : Int → AV := fun r => .v (.int .i64 r)
def infer_ask_out.j3 : LJ 3 74 Unit Unit := ⟨fun r t e => [(1, er e 1), (4, er e 4), (5, er e 5), (17, .v (.bool (decide ((74 : Int) = 71))))], fun r t h => [((0, 1, 0), hr h (0, 1, 0))]⟩
def infer_ask_out.j2 : LJ 2 54 Unit Unit := ⟨fun r t e => [(1, er e 1), (4, er e 4), (5, .v (.bool (decide ((74 : Int) = 41))))], fun r t h => [((0, 1, 0), hr h (0, 1, 0))]⟩
def infer_ask_out.j1 : LJ 1 50 Unit Unit := ⟨fun r t e => [(1, er e 1)], fun r t h => [((0, 1, 0), hr h (0, 1, 0))]⟩
set_option maxHeartbeats 20000000 in
open infer_ask_out in
theorem w43 (cp : CallP) (fu : Nat) (x1 : T_infer_ask) (H1 : K101 fu cp) : J (go Tryz.prog noC cp noI 0 [] d43 fu (fin Tryz.prog [.tmp 2] [3]) (bodyOf Tryz.f43) (initE 0 [.agg (c_T_infer_ask x1)]) [] []) (infer_ask_out fu x1) e43 := by
 unfold infer_ask_out e43
 have da := d43_at
 conv => arg 1; simp only [bodyOf, Tryz.f43]
 have z0 := d43_at
 exact Wk
theorem ok43 (fu : Nat) (x1 : T_infer_ask) (r) (h : infer_ask_out fu x1 = some r) : PureOK Tryz.prog 43 [.agg (c_T_infer_ask x1)] (e43 r) := pureT mixed [(C101 fu).ct] (ids := [101]) rfl (by decide) i43 (C := noC) (ci := fun cp => noI) (fun cp ok => noI_ok) (fun cp H => w43 cp fu x1 (u101 H.1)) h
open Aw (d25)
def d25_at := by have h := tabL Aw.d25.eq_1; simp only [AllAt, Nat.zero_add, Nat.reduceAdd] at h; exact h
theorem i25 : finfo Tryz.prog 25 d25 = some ⟨bodyOf Tryz.f25, [.tmp 8, .tmp 9], [51, 35]⟩ := finfo_at Tryz.func25 rfl (by kernel_rfl) (by kernel_rfl)
def e25 : ((List T_Val) × Int) → AV := fun r => .tuple [.arr r.1.length (fm c_T_Val r.1), .v (.int .i64 r.2)]
structure K40 (fu : Nat) (cp : CallP) : Prop where
 ap : ∀ {a0 : T_infer_ask} {r}, infer_ask_complete fu a0 = some r → cp 40 [.agg (c_T_infer_ask a0)] = some (.v (.bool r))
noncomputable def C40 (fu : Nat) : Cm Tryz.prog T_infer_ask Bool := ⟨40, fun t => [.agg (c_T_infer_ask t)], fun t => infer_ask_complete fu t, e40, fun t b h => ok40 fu t  b h, Zi⟩
theorem u40 {fu : Nat} {cp : CallP} (H : Hit cp (C40 fu).ct) : K40 fu cp := ⟨fun {a0 r} h => (C40 fu).at H a0 r h⟩
structure K41 (fu : Nat) (cp : CallP) : Prop where
 ap : ∀ {a0 : T_infer_ask} {r}, infer_ask_wrong fu a0 = some r → cp 41 [.agg (c_T_infer_ask a0)] = some (.v (.int .i64 r))
noncomputable def C41 (fu : Nat) : Cm Tryz.prog T_infer_ask Int := ⟨41, fun t => [.agg (c_T_infer_ask t)], fun t => infer_ask_wrong fu t, e41, fun t b h => ok41 fu t  b h, Zi⟩
theorem u41 {fu : Nat} {cp : CallP} (H : Hit cp (C41 fu).ct) : K41 fu cp := ⟨fun {a0 r} h => (C41 fu).at H a0 r h⟩
structure K42 (fu : Nat) (cp : CallP) : Prop where
 ap : ∀ {a0 : T_infer_ask} {r}, infer_ask_shapes fu a0 = some r → cp 42 [.agg (c_T_infer_ask a0)] = some (.tuple [.arr r.1.length (lm (avl (ik .i64)) r.1), .v (.int .i64 r.2)])
noncomputable def C42 (fu : Nat) : Cm Tryz.prog T_infer_ask ((List (List Int)) × Int) := ⟨42, fun t => [.agg (c_T_infer_ask t)], fun t => infer_ask_shapes fu t, e42, fun t b h => ok42 fu t  b h, Zi⟩
theorem u42 {fu : Nat} {cp : CallP} (H : Hit cp (C42 fu).ct) : K42 fu cp := ⟨fun {a0 r} h => (C42 fu).at H a0 r h⟩
structure K43 (fu : Nat) (cp : CallP) : Prop where
 ap : ∀ {a0 : T_infer_ask} {r}, infer_ask_out fu a0 = some r → cp 43 [.agg (c_T_infer_ask a0)] = some (.v (.int .i64 r))
noncomputable def C43 (fu : Nat) : Cm Tryz.prog T_infer_ask Int := ⟨43, fun t => [.agg (c_T_infer_ask t)], fun t => infer_ask_out fu t, e43, fun t b h => ok43 fu t  b h, Zi⟩
theorem u43 {fu : Nat} {cp : CallP} (H : Hit cp (C43 fu).ct) : K43 fu cp := ⟨fun {a0 r} h => (C43 fu).at H a0 r h⟩
def infer_Node.m1 : LJ 1 24 Unit ((List T_Val) × Int) := ⟨fun r s e => [(10, er e 10), (14, .own (0, 14, 77) 0 s.1.length s.1.length), (40, er e 40), (41, er e 41), (42, .v (.int .i64 s.2))], fun r s h => [((0, 10, 0), hr h (0, 10, 0)), ((0, 14, 77), .sl true true 8 s.1.length (fm c_T_Val s.1))]⟩
set_option maxHeartbeats 20000000 in
open infer_Node in
theorem w25 (cp : CallP) (fu : Nat) (x1 : Int) (x2 : T_Setting) (x3 : List T_Val) (x4 : Int) (H1 : K40 fu cp) (H2 : K41 fu cp) (H3 : K42 fu cp) (H4 : K27 fu cp) (H5 : K43 fu cp) (H6 : K44 fu cp) : J (go Tryz.prog noC cp noI 0 [] d25 fu (finS Tryz.prog [.tmp 8, .tmp 9] [51, 35]) (bodyOf Tryz.f25) (initE 0 [.v (.int .i64 x1), .agg (c_T_Setting x2), .arr x3.length (fm c_T_Val x3), .v (.int .i64 x4)]) [] []) (infer_Node fu x1 x2 x3 x4) e25 := by
 unfold infer_Node e25
 have da := d25_at
 conv => arg 1; simp only [bodyOf, Tryz.f25]
 have z0 := d25_at
 have z1 := SE
 exact Wk
theorem ok25 (fu : Nat) (x1 : Int) (x2 : T_Setting) (x3 : List T_Val) (x4 : Int) (r) (h : infer_Node fu x1 x2 x3 x4 = some r) : PureOK Tryz.prog 25 [.v (.int .i64 x1), .agg (c_T_Setting x2), .arr x3.length (fm c_T_Val x3), .v (.int .i64 x4)] (e25 r) := pureST mixed [(C40 fu).ct, (C41 fu).ct, (C42 fu).ct, (C27 fu).ct, (C43 fu).ct, (C44 fu).ct] (ids := [40, 41, 42, 27, 43, 44]) rfl (by decide) i25 (C := noC) (ci := fun cp => noI) (fun cp ok => noI_ok) (fun cp H => w25 cp fu x1 x2 x3 x4 (u40 H.1) (u41 H.2.1) (u42 H.2.2.1) (u27 H.2.2.2.1) (u43 H.2.2.2.2.1) (u44 H.2.2.2.2.2.1)) h
open Aw (d53)
def d53_at := by have h := tabL Aw.d53.eq_1; simp only [AllAt, Nat.zero_add, Nat.reduceAdd] at h; exact h
theorem i53 : finfo Tryz.prog 53 d53 = some ⟨bodyOf Tryz.f53, [.cell 4 75], [75]⟩ := finfo_at Tryz.func53 rfl (by kernel_rfl) (by kernel_rfl)
def e53 : T_mat_grid → AV := fun r => .agg [.arr r.fl.length (lm (ik .u32) r.fl), .v (.int .i64 r.fat), .v (.int .i64 r.frow), .v (.int .i64 r.fcol), .v (.int .i64 r.frows), .v (.int .i64 r.fcolumns)]
set_option maxHeartbeats 20000000 in
theorem w53 (cp : CallP) (fu : Nat) (x1 : T_Tensor) (x2 : Bool)  : J (go Tryz.prog noC cp noI 0 [] d53 fu (fin Tryz.prog [.cell 4 75] [75]) (bodyOf Tryz.f53) (initE 0 [.agg (c_T_Tensor x1), .v (.bool x2)]) [] []) (mat_matrix fu x1 x2) e53 := by
 unfold mat_matrix e53
 have da := d53_at
 conv => arg 1; simp only [bodyOf, Tryz.f53]
 have z0 := d53_at
 exact Wk
theorem ok53 (fu : Nat) (x1 : T_Tensor) (x2 : Bool) (r) (h : mat_matrix fu x1 x2 = some r) : PureOK Tryz.prog 53 [.agg (c_T_Tensor x1), .v (.bool x2)] (e53 r) := pureT mixed [] (ids := []) rfl (by decide) i53 (C := noC) (ci := fun cp => noI) (fun cp ok => noI_ok) (fun cp H => w53 cp fu x1 x2 ) h
open Aw (d166)
def d166_at := by have h := tabL Aw.d166.eq_1; simp only [AllAt, Nat.zero_add, Nat.reduceAdd] at h; exact h
theorem i166 : finfo Tryz.prog 166 d166 = some ⟨bodyOf Tryz.f166, [.tmp 2], [22]⟩ := finfo_at Tryz.func166 rfl (by kernel_rfl) (by kernel_rfl)
def e166 : (List Int) → AV := fun r => .fresh 1 r.length (lm (ik .u32) r)
def mat_line_uint32_list.m1 : LJ 1 6 Unit ((List Int) × Int) := ⟨fun r s e => [(1, er e 1), (3, .own (0, 3, 77) 0 s.1.length s.1.length), (6, er e 6), (7, .v (.int .i64 s.2))], fun r s h => [((0, 1, 0), hr h (0, 1, 0)), ((0, 3, 77), .sl true true 1 s.1.length (lm (ik .u32) s.1))]⟩
set_option maxHeartbeats 20000000 in
open mat_line_uint32_list in
theorem w166 (cp : CallP) (fu : Nat) (x1 : T_mat_line_uint32)  : J (go Tryz.prog noC cp noI 0 [] d166 fu (fin Tryz.prog [.tmp 2] [22]) (bodyOf Tryz.f166) (initE 0 [.agg (c_T_mat_line_uint32 x1)]) [] []) (mat_line_uint32_list fu x1) e166 := by
 unfold mat_line_uint32_list e166
 have da := d166_at
 conv => arg 1; simp only [bodyOf, Tryz.f166]
 have z0 := d166_at
 exact Wk
theorem ok166 (fu : Nat) (x1 : T_mat_line_uint32) (r) (h : mat_line_uint32_list fu x1 = some r) : PureOK Tryz.prog 166 [.agg (c_T_mat_line_uint32 x1)] (e166 r) := pureT mixed [] (ids := []) rfl (by decide) i166 (C := noC) (ci := fun cp => noI) (fun cp ok => noI_ok) (fun cp H => w166 cp fu x1 ) h
open Aw (d107)
def d107_at := by have h := tabL Aw.d107.eq_1; simp only [AllAt, Nat.zero_add, Nat.reduceAdd] at h; exact h
theorem i107 : finfo Tryz.prog 107 d107 = some ⟨bodyOf Tryz.f107, [.tmp 4], [22]⟩ := finfo_at Tryz.func107 rfl (by kernel_rfl) (by kernel_rfl)
def e107 : (List Int) → AV := fun r => .fresh 1 r.length (lm (ik .u32) r)
structure K166 (fu : Nat) (cp : CallP) : Prop where
 ap : ∀ {a0 : T_mat_line_uint32} {r}, mat_line_uint32_list fu a0 = some r → cp 166 [.agg (c_T_mat_line_uint32 a0)] = some (.fresh 1 r.length (lm (ik .u32) r))
noncomputable def C166 (fu : Nat) : Cm Tryz.prog T_mat_line_uint32 (List Int) := ⟨166, fun t => [.agg (c_T_mat_line_uint32 t)], fun t => mat_line_uint32_list fu t, e166, fun t b h => ok166 fu t  b h, Zi⟩
theorem u166 {fu : Nat} {cp : CallP} (H : Hit cp (C166 fu).ct) : K166 fu cp := ⟨fun {a0 r} h => (C166 fu).at H a0 r h⟩
set_option maxHeartbeats 20000000 in
theorem w107 (cp : CallP) (fu : Nat) (x1 : T_mat_grid) (x2 : Int) (H1 : K166 fu cp) : J (go Tryz.prog noC cp noI 0 [] d107 fu (fin Tryz.prog [.tmp 4] [22]) (bodyOf Tryz.f107) (initE 0 [.agg (c_T_mat_grid x1), .v (.int .i64 x2)]) [] []) (mat_grid_down fu x1 x2) e107 := by
 unfold mat_grid_down e107
 have da := d107_at
 conv => arg 1; simp only [bodyOf, Tryz.f107]
 have z0 := d107_at
 exact Wk
theorem ok107 (fu : Nat) (x1 : T_mat_grid) (x2 : Int) (r) (h : mat_grid_down fu x1 x2 = some r) : PureOK Tryz.prog 107 [.agg (c_T_mat_grid x1), .v (.int .i64 x2)] (e107 r) := pureT mixed [(C166 fu).ct] (ids := [166]) rfl (by decide) i107 (C := noC) (ci := fun cp => noI) (fun cp ok => noI_ok) (fun cp H => w107 cp fu x1 x2 (u166 H.1)) h
open Aw (d108)
def d108_at := by have h := tabL Aw.d108.eq_1; simp only [AllAt, Nat.zero_add, Nat.reduceAdd] at h; exact h
theorem i108 : finfo Tryz.prog 108 d108 = some ⟨bodyOf Tryz.f108, [.tmp 4], [22]⟩ := finfo_at Tryz.func108 rfl (by kernel_rfl) (by kernel_rfl)
def e108 : (List Int) → AV := fun r => .fresh 1 r.length (lm (ik .u32) r)
set_option maxHeartbeats 20000000 in
theorem w108 (cp : CallP) (fu : Nat) (x1 : T_mat_grid) (x2 : Int) (H1 : K166 fu cp) : J (go Tryz.prog noC cp noI 0 [] d108 fu (fin Tryz.prog [.tmp 4] [22]) (bodyOf Tryz.f108) (initE 0 [.agg (c_T_mat_grid x1), .v (.int .i64 x2)]) [] []) (mat_grid_across fu x1 x2) e108 := by
 unfold mat_grid_across e108
 have da := d108_at
 conv => arg 1; simp only [bodyOf, Tryz.f108]
 have z0 := d108_at
 exact Wk
theorem ok108 (fu : Nat) (x1 : T_mat_grid) (x2 : Int) (r) (h : mat_grid_across fu x1 x2 = some r) : PureOK Tryz.prog 108 [.agg (c_T_mat_grid x1), .v (.int .i64 x2)] (e108 r) := pureT mixed [(C166 fu).ct] (ids := [166]) rfl (by decide) i108 (C := noC) (ci := fun cp => noI) (fun cp ok => noI_ok) (fun cp H => w108 cp fu x1 x2 (u166 H.1)) h
open Aw (d63)
def d63_at := by have h := tabL Aw.d63.eq_1; simp only [AllAt, Nat.zero_add, Nat.reduceAdd] at h; exact h
theorem i63 : finfo Tryz.prog 63 d63 = some ⟨bodyOf Tryz.f63, [.cell 2 91], [91]⟩ := finfo_at Tryz.func63 rfl (by kernel_rfl) (by kernel_rfl)
def e63 : T_soft_number → AV := fun r => .agg [.v (.bool r.fneg), .v (.bool r.fnan), .v (.bool r.finf), .v (.int .i64 r.fexp), .v (.int .u64 r.fsig)]
set_option maxHeartbeats 20000000 in
theorem w63 (cp : CallP) (fu : Nat) (x1 : Int)  : J (go Tryz.prog noC cp noI 0 [] d63 fu (fin Tryz.prog [.cell 2 91] [91]) (bodyOf Tryz.f63) (initE 0 [.v (.int .u32 x1)]) [] []) (soft_open fu x1) e63 := by
 unfold soft_open e63
 have da := d63_at
 conv => arg 1; simp only [bodyOf, Tryz.f63]
 have z0 := d63_at
 exact Wk
theorem ok63 (fu : Nat) (x1 : Int) (r) (h : soft_open fu x1 = some r) : PureOK Tryz.prog 63 [.v (.int .u32 x1)] (e63 r) := pureT mixed [] (ids := []) rfl (by decide) i63 (C := noC) (ci := fun cp => noI) (fun cp ok => noI_ok) (fun cp H => w63 cp fu x1 ) h
open Aw (d66)
def d66_at := by have h := tabL Aw.d66.eq_1; simp only [AllAt, Nat.zero_add, Nat.reduceAdd] at h; exact h
theorem i66 : finfo Tryz.prog 66 d66 = some ⟨bodyOf Tryz.f66, [.tmp 2], [24]⟩ := finfo_at Tryz.func66 rfl (by kernel_rfl) (by kernel_rfl)
def e66 : Int → AV := fun r => .v (.int .u32 r)
set_option maxHeartbeats 20000000 in
theorem w66 (cp : CallP) (fu : Nat) (x1 : Bool)  : J (go Tryz.prog noC cp noI 0 [] d66 fu (fin Tryz.prog [.tmp 2] [24]) (bodyOf Tryz.f66) (initE 0 [.v (.bool x1)]) [] []) (soft_sign fu x1) e66 := by
 unfold soft_sign e66
 have da := d66_at
 conv => arg 1; simp only [bodyOf, Tryz.f66]
 have z0 := d66_at
 exact Wk
theorem ok66 (fu : Nat) (x1 : Bool) (r) (h : soft_sign fu x1 = some r) : PureOK Tryz.prog 66 [.v (.bool x1)] (e66 r) := pureT mixed [] (ids := []) rfl (by decide) i66 (C := noC) (ci := fun cp => noI) (fun cp ok => noI_ok) (fun cp H => w66 cp fu x1 ) h
open Aw (d127)
def d127_at := by have h := tabL Aw.d127.eq_1; simp only [AllAt, Nat.zero_add, Nat.reduceAdd] at h; exact h
theorem i127 : finfo Tryz.prog 127 d127 = some ⟨bodyOf Tryz.f127, [.tmp 2], [3]⟩ := finfo_at Tryz.func127 rfl (by kernel_rfl) (by kernel_rfl)
def e127 : Int → AV := fun r => .v (.int .i64 r)
def math_bits_Len64.j2 : LJ 2 14 Unit (Int × Int) := ⟨fun r t e => [(0, .v (.int .u64 t.1)), (2, .v (.int .i64 t.2))], fun r t h => []⟩
def math_bits_Len64.j1 : LJ 1 8 Unit (Int × Int) := ⟨fun r t e => [(0, .v (.int .u64 t.1)), (2, .v (.int .i64 t.2))], fun r t h => []⟩
set_option maxHeartbeats 20000000 in
open math_bits_Len64 in
theorem w127 (cp : CallP) (fu : Nat) (x1 : Int)  : J (go Tryz.prog noC cp noI 0 [] d127 fu (fin Tryz.prog [.tmp 2] [3]) (bodyOf Tryz.f127) (initE 0 [.v (.int .u64 x1)]) [] []) (math_bits_Len64 fu x1) e127 := by
 unfold math_bits_Len64 e127
 have da := d127_at
 conv => arg 1; simp only [bodyOf, Tryz.f127]
 have z0 := d127_at
 exact Wk
theorem ok127 (fu : Nat) (x1 : Int) (r) (h : math_bits_Len64 fu x1 = some r) : PureOK Tryz.prog 127 [.v (.int .u64 x1)] (e127 r) := pureT mixed [] (ids := []) rfl (by decide) i127 (C := noC) (ci := fun cp => noI) (fun cp ok => noI_ok) (fun cp H => w127 cp fu x1 ) h
def d130 : List (Nat × List Nat) := [(0, [4]), (0, []), (0, [0, 1, 5, 6, 7, 8, 9, 10, 11, 12, 13, 14, 15, 16, 17])]
def d130_at := by have h := tabL d130.eq_1; simp only [AllAt, Nat.zero_add, Nat.reduceAdd] at h; exact h
theorem i130 : finfo Tryz.prog 130 d130 = some ⟨bodyOf Tryz.f130, [.tmp 4], [4]⟩ := finfo_at Tryz.func130 rfl (by kernel_rfl) (by kernel_rfl)
def e130 : Bool → AV := fun r => .v (.bool r)
set_option maxHeartbeats 20000000 in
theorem w130 (cp : CallP) (fu : Nat) (x1 : Int) (x2 : Bool)  : J (go Tryz.prog noC cp noI 0 [] d130 fu (fin Tryz.prog [.tmp 4] [4]) (bodyOf Tryz.f130) (initE 0 [.v (.int .i64 x1), .v (.bool x2)]) [] []) (soft_outwards fu x1 x2) e130 := by
 unfold soft_outwards e130
 have da := d130_at
 conv => arg 1; simp only [bodyOf, Tryz.f130]
 have z0 := d130_at
 exact Wk
theorem ok130 (fu : Nat) (x1 : Int) (x2 : Bool) (r) (h : soft_outwards fu x1 x2 = some r) : PureOK Tryz.prog 130 [.v (.int .i64 x1), .v (.bool x2)] (e130 r) := pureT mixed [] (ids := []) rfl (by decide) i130 (C := noC) (ci := fun cp => noI) (fun cp ok => noI_ok) (fun cp H => w130 cp fu x1 x2 ) h
def d128 : List (Nat × List Nat) := [(0, [4]), (0, []), (0, [0, 5, 6]), (0, []), (0, [8, 9, 10]), (0, []), (0, [1, 11, 12])]
def d128_at := by have h := tabL d128.eq_1; simp only [AllAt, Nat.zero_add, Nat.reduceAdd] at h; exact h
theorem i128 : finfo Tryz.prog 128 d128 = some ⟨bodyOf Tryz.f128, [.tmp 4], [24]⟩ := finfo_at Tryz.func128 rfl (by kernel_rfl) (by kernel_rfl)
def e128 : Int → AV := fun r => .v (.int .u32 r)
structure K130 (fu : Nat) (cp : CallP) : Prop where
 ap : ∀ {a0 : Int} {a1 : Bool} {r}, soft_outwards fu a0 a1 = some r → cp 130 [.v (.int .i64 a0), .v (.bool a1)] = some (.v (.bool r))
noncomputable def C130 (fu : Nat) : Cm Tryz.prog (Int × Bool) Bool := ⟨130, fun t => [.v (.int .i64 t.1), .v (.bool t.2)], fun t => soft_outwards fu t.1 t.2, e130, fun t b h => ok130 fu t.1 t.2  b h, Zi⟩
theorem u130 {fu : Nat} {cp : CallP} (H : Hit cp (C130 fu).ct) : K130 fu cp := ⟨fun {a0 a1 r} h => (C130 fu).at H (a0, a1) r h⟩
structure K66 (fu : Nat) (cp : CallP) : Prop where
 ap : ∀ {a0 : Bool} {r}, soft_sign fu a0 = some r → cp 66 [.v (.bool a0)] = some (.v (.int .u32 r))
noncomputable def C66 (fu : Nat) : Cm Tryz.prog Bool Int := ⟨66, fun t => [.v (.bool t)], fun t => soft_sign fu t, e66, fun t b h => ok66 fu t  b h, Zi⟩
theorem u66 {fu : Nat} {cp : CallP} (H : Hit cp (C66 fu).ct) : K66 fu cp := ⟨fun {a0 r} h => (C66 fu).at H a0 r h⟩
set_option maxHeartbeats 20000000 in
theorem w128 (cp : CallP) (fu : Nat) (x1 : Int) (x2 : Bool) (H1 : K130 fu cp) (H2 : K66 fu cp) : J (go Tryz.prog noC cp noI 0 [] d128 fu (fin Tryz.prog [.tmp 4] [24]) (bodyOf Tryz.f128) (initE 0 [.v (.int .i64 x1), .v (.bool x2)]) [] []) (soft_tiny fu x1 x2) e128 := by
 unfold soft_tiny e128
 have da := d128_at
 conv => arg 1; simp only [bodyOf, Tryz.f128]
 have z0 := d128_at
 exact Wk
theorem ok128 (fu : Nat) (x1 : Int) (x2 : Bool) (r) (h : soft_tiny fu x1 x2 = some r) : PureOK Tryz.prog 128 [.v (.int .i64 x1), .v (.bool x2)] (e128 r) := pureT mixed [(C130 fu).ct, (C66 fu).ct] (ids := [130, 66]) rfl (by decide) i128 (C := noC) (ci := fun cp => noI) (fun cp ok => noI_ok) (fun cp H => w128 cp fu x1 x2 (u130 H.1) (u66 H.2.1)) h
def d129 : List (Nat × List Nat) := [(0, [4]), (0, []), (0, [0, 5, 6, 7, 8, 9, 10, 11, 12, 13, 14, 15]), (0, []), (0, [17, 18, 19]), (0, []), (0, [1, 20, 21, 22])]
def d129_at := by have h := tabL d129.eq_1; simp only [AllAt, Nat.zero_add, Nat.reduceAdd] at h; exact h
theorem i129 : finfo Tryz.prog 129 d129 = some ⟨bodyOf Tryz.f129, [.tmp 4], [24]⟩ := finfo_at Tryz.func129 rfl (by kernel_rfl) (by kernel_rfl)
def e129 : Int → AV := fun r => .v (.int .u32 r)
def soft_huge.j1 : LJ 1 6 Unit Unit := ⟨fun r t e => [(1, er e 1)], fun r t h => []⟩
set_option maxHeartbeats 20000000 in
open soft_huge in
theorem w129 (cp : CallP) (fu : Nat) (x1 : Int) (x2 : Bool) (H1 : K66 fu cp) : J (go Tryz.prog noC cp noI 0 [] d129 fu (fin Tryz.prog [.tmp 4] [24]) (bodyOf Tryz.f129) (initE 0 [.v (.int .i64 x1), .v (.bool x2)]) [] []) (soft_huge fu x1 x2) e129 := by
 unfold soft_huge e129
 have da := d129_at
 conv => arg 1; simp only [bodyOf, Tryz.f129]
 have z0 := d129_at
 exact Wk
theorem ok129 (fu : Nat) (x1 : Int) (x2 : Bool) (r) (h : soft_huge fu x1 x2 = some r) : PureOK Tryz.prog 129 [.v (.int .i64 x1), .v (.bool x2)] (e129 r) := pureT mixed [(C66 fu).ct] (ids := [66]) rfl (by decide) i129 (C := noC) (ci := fun cp => noI) (fun cp ok => noI_ok) (fun cp H => w129 cp fu x1 x2 (u66 H.1)) h
open Aw (d65)
def d65_at := by have h := tabL Aw.d65.eq_1; simp only [AllAt, Nat.zero_add, Nat.reduceAdd] at h; exact h
theorem i65 : finfo Tryz.prog 65 d65 = some ⟨bodyOf Tryz.f65, [.tmp 10], [24]⟩ := finfo_at Tryz.func65 rfl (by kernel_rfl) (by kernel_rfl)
def e65 : Int → AV := fun r => .v (.int .u32 r)
structure K127 (fu : Nat) (cp : CallP) : Prop where
 ap : ∀ {a0 : Int} {r}, math_bits_Len64 fu a0 = some r → cp 127 [.v (.int .u64 a0)] = some (.v (.int .i64 r))
noncomputable def C127 (fu : Nat) : Cm Tryz.prog Int Int := ⟨127, fun t => [.v (.int .u64 t)], fun t => math_bits_Len64 fu t, e127, fun t b h => ok127 fu t  b h, Zi⟩
theorem u127 {fu : Nat} {cp : CallP} (H : Hit cp (C127 fu).ct) : K127 fu cp := ⟨fun {a0 r} h => (C127 fu).at H a0 r h⟩
structure K128 (fu : Nat) (cp : CallP) : Prop where
 ap : ∀ {a0 : Int} {a1 : Bool} {r}, soft_tiny fu a0 a1 = some r → cp 128 [.v (.int .i64 a0), .v (.bool a1)] = some (.v (.int .u32 r))
noncomputable def C128 (fu : Nat) : Cm Tryz.prog (Int × Bool) Int := ⟨128, fun t => [.v (.int .i64 t.1), .v (.bool t.2)], fun t => soft_tiny fu t.1 t.2, e128, fun t b h => ok128 fu t.1 t.2  b h, Zi⟩
theorem u128 {fu : Nat} {cp : CallP} (H : Hit cp (C128 fu).ct) : K128 fu cp := ⟨fun {a0 a1 r} h => (C128 fu).at H (a0, a1) r h⟩
structure K129 (fu : Nat) (cp : CallP) : Prop where
 ap : ∀ {a0 : Int} {a1 : Bool} {r}, soft_huge fu a0 a1 = some r → cp 129 [.v (.int .i64 a0), .v (.bool a1)] = some (.v (.int .u32 r))
noncomputable def C129 (fu : Nat) : Cm Tryz.prog (Int × Bool) Int := ⟨129, fun t => [.v (.int .i64 t.1), .v (.bool t.2)], fun t => soft_huge fu t.1 t.2, e129, fun t b h => ok129 fu t.1 t.2  b h, Zi⟩
theorem u129 {fu : Nat} {cp : CallP} (H : Hit cp (C129 fu).ct) : K129 fu cp := ⟨fun {a0 a1 r} h => (C129 fu).at H (a0, a1) r h⟩
def soft_Round.j3 : LJ 3 56 Unit Int := ⟨fun r t e => [(0, er e 0), (1, er e 1), (2, er e 2), (12, er e 12), (13, .v (.int .u64 t))], fun r t h => []⟩
def soft_Round.j4 : LJ 4 30 Unit Bool := ⟨fun r t e => [(0, er e 0), (1, er e 1), (2, er e 2), (3, er e 3), (4, er e 4), (11, er e 11), (12, er e 12), (13, er e 13), (14, .v (.bool t)), (15, er e 15), (16, er e 16), (17, er e 17), (18, er e 18)], fun r t h => []⟩
def soft_Round.j2 : LJ 2 42 Unit (Int × Bool × Bool × Bool) := ⟨fun r t e => [(0, er e 0), (1, er e 1), (2, er e 2), (12, er e 12), (13, .v (.int .u64 t.1)), (14, .v (.bool t.2.1)), (15, .v (.bool t.2.2.1)), (16, .v (.bool t.2.2.2))], fun r t h => []⟩
def soft_Round.j1 : LJ 1 16 Unit Unit := ⟨fun r t e => [(0, er e 0), (1, er e 1), (2, er e 2), (3, er e 3), (4, er e 4), (11, er e 11)], fun r t h => []⟩
set_option maxHeartbeats 20000000 in
open soft_Round in
theorem w65 (cp : CallP) (fu : Nat) (x1 : Int) (x2 : Bool) (x3 : Int) (x4 : Int) (x5 : Bool) (H1 : K127 fu cp) (H2 : K128 fu cp) (H3 : K66 fu cp) (H4 : K129 fu cp) : J (go Tryz.prog noC cp noI 0 [] d65 fu (fin Tryz.prog [.tmp 10] [24]) (bodyOf Tryz.f65) (initE 0 [.v (.int .i64 x1), .v (.bool x2), .v (.int .i64 x3), .v (.int .u64 x4), .v (.bool x5)]) [] []) (soft_Round fu x1 x2 x3 x4 x5) e65 := by
 unfold soft_Round e65
 have da := d65_at
 conv => arg 1; simp only [bodyOf, Tryz.f65]
 have z0 := d65_at
 exact Wk
theorem ok65 (fu : Nat) (x1 : Int) (x2 : Bool) (x3 : Int) (x4 : Int) (x5 : Bool) (r) (h : soft_Round fu x1 x2 x3 x4 x5 = some r) : PureOK Tryz.prog 65 [.v (.int .i64 x1), .v (.bool x2), .v (.int .i64 x3), .v (.int .u64 x4), .v (.bool x5)] (e65 r) := pureT mixed [(C127 fu).ct, (C128 fu).ct, (C66 fu).ct, (C129 fu).ct] (ids := [127, 128, 66, 129]) rfl (by decide) i65 (C := noC) (ci := fun cp => noI) (fun cp ok => noI_ok) (fun cp H => w65 cp fu x1 x2 x3 x4 x5 (u127 H.1) (u128 H.2.1) (u66 H.2.2.1) (u129 H.2.2.2.1)) h
open Aw (d34)
def d34_at := by have h := tabL Aw.d34.eq_1; simp only [AllAt, Nat.zero_add, Nat.reduceAdd] at h; exact h
theorem i34 : finfo Tryz.prog 34 d34 = some ⟨bodyOf Tryz.f34, [.tmp 6], [24]⟩ := finfo_at Tryz.func34 rfl (by kernel_rfl) (by kernel_rfl)
def e34 : Int → AV := fun r => .v (.int .u32 r)
structure K63 (fu : Nat) (cp : CallP) : Prop where
 ap : ∀ {a0 : Int} {r}, soft_open fu a0 = some r → cp 63 [.v (.int .u32 a0)] = some (.agg [.v (.bool r.fneg), .v (.bool r.fnan), .v (.bool r.finf), .v (.int .i64 r.fexp), .v (.int .u64 r.fsig)])
noncomputable def C63 (fu : Nat) : Cm Tryz.prog Int T_soft_number := ⟨63, fun t => [.v (.int .u32 t)], fun t => soft_open fu t, e63, fun t b h => ok63 fu t  b h, Zi⟩
theorem u63 {fu : Nat} {cp : CallP} (H : Hit cp (C63 fu).ct) : K63 fu cp := ⟨fun {a0 r} h => (C63 fu).at H a0 r h⟩
structure K65 (fu : Nat) (cp : CallP) : Prop where
 ap : ∀ {a0 : Int} {a1 : Bool} {a2 : Int} {a3 : Int} {a4 : Bool} {r}, soft_Round fu a0 a1 a2 a3 a4 = some r → cp 65 [.v (.int .i64 a0), .v (.bool a1), .v (.int .i64 a2), .v (.int .u64 a3), .v (.bool a4)] = some (.v (.int .u32 r))
noncomputable def C65 (fu : Nat) : Cm Tryz.prog (Int × Bool × Int × Int × Bool) Int := ⟨65, fun t => [.v (.int .i64 t.1), .v (.bool t.2.1), .v (.int .i64 t.2.2.1), .v (.int .u64 t.2.2.2.1), .v (.bool t.2.2.2.2)], fun t => soft_Round fu t.1 t.2.1 t.2.2.1 t.2.2.2.1 t.2.2.2.2, e65, fun t b h => ok65 fu t.1 t.2.1 t.2.2.1 t.2.2.2.1 t.2.2.2.2  b h, Zi⟩
theorem u65 {fu : Nat} {cp : CallP} (H : Hit cp (C65 fu).ct) : K65 fu cp := ⟨fun {a0 a1 a2 a3 a4 r} h => (C65 fu).at H (a0, a1, a2, a3, a4) r h⟩
def soft_MulBy.j1 : LJ 1 14 Unit Unit := ⟨fun r t e => [(0, er e 0), (7, er e 7), (8, er e 8), (9, er e 9)], fun r t h => [((0, 7, 0), bs (bs (hr h (0, 7, 0)) 1 (.v (.bool false))) 2 (.v (.bool false))), ((0, 8, 0), bs (bs (hr h (0, 8, 0)) 1 (.v (.bool false))) 2 (.v (.bool false)))]⟩
set_option maxHeartbeats 20000000 in
open soft_MulBy in
theorem w34 (cp : CallP) (fu : Nat) (x1 : Int) (x2 : Int) (x3 : Int) (H1 : K63 fu cp) (H2 : K66 fu cp) (H3 : K65 fu cp) : J (go Tryz.prog noC cp noI 0 [] d34 fu (fin Tryz.prog [.tmp 6] [24]) (bodyOf Tryz.f34) (initE 0 [.v (.int .i64 x1), .v (.int .u32 x2), .v (.int .u32 x3)]) [] []) (soft_MulBy fu x1 x2 x3) e34 := by
 unfold soft_MulBy e34
 have da := d34_at
 conv => arg 1; simp only [bodyOf, Tryz.f34]
 have z0 := d34_at
 exact Wk
theorem ok34 (fu : Nat) (x1 : Int) (x2 : Int) (x3 : Int) (r) (h : soft_MulBy fu x1 x2 x3 = some r) : PureOK Tryz.prog 34 [.v (.int .i64 x1), .v (.int .u32 x2), .v (.int .u32 x3)] (e34 r) := pureT mixed [(C63 fu).ct, (C66 fu).ct, (C65 fu).ct] (ids := [63, 66, 65]) rfl (by decide) i34 (C := noC) (ci := fun cp => noI) (fun cp ok => noI_ok) (fun cp H => w34 cp fu x1 x2 x3 (u63 H.1) (u66 H.2.1) (u65 H.2.2.1)) h
open Aw (d20)
def d20_at := by have h := tabL Aw.d20.eq_1; simp only [AllAt, Nat.zero_add, Nat.reduceAdd] at h; exact h
theorem i20 : finfo Tryz.prog 20 d20 = some ⟨bodyOf Tryz.f20, [.tmp 4], [24]⟩ := finfo_at Tryz.func20 rfl (by kernel_rfl) (by kernel_rfl)
def e20 : Int → AV := fun r => .v (.int .u32 r)
structure K34 (fu : Nat) (cp : CallP) : Prop where
 ap : ∀ {a0 : Int} {a1 : Int} {a2 : Int} {r}, soft_MulBy fu a0 a1 a2 = some r → cp 34 [.v (.int .i64 a0), .v (.int .u32 a1), .v (.int .u32 a2)] = some (.v (.int .u32 r))
noncomputable def C34 (fu : Nat) : Cm Tryz.prog (Int × Int × Int) Int := ⟨34, fun t => [.v (.int .i64 t.1), .v (.int .u32 t.2.1), .v (.int .u32 t.2.2)], fun t => soft_MulBy fu t.1 t.2.1 t.2.2, e34, fun t b h => ok34 fu t.1 t.2.1 t.2.2  b h, Zi⟩
theorem u34 {fu : Nat} {cp : CallP} (H : Hit cp (C34 fu).ct) : K34 fu cp := ⟨fun {a0 a1 a2 r} h => (C34 fu).at H (a0, a1, a2) r h⟩
set_option maxHeartbeats 20000000 in
theorem w20 (cp : CallP) (fu : Nat) (x1 : Int) (x2 : Int) (H1 : K34 fu cp) : J (go Tryz.prog noC cp noI 0 [] d20 fu (fin Tryz.prog [.tmp 4] [24]) (bodyOf Tryz.f20) (initE 0 [.v (.int .u32 x1), .v (.int .u32 x2)]) [] []) (soft_Mul fu x1 x2) e20 := by
 unfold soft_Mul e20
 have da := d20_at
 conv => arg 1; simp only [bodyOf, Tryz.f20]
 have z0 := d20_at
 exact Wk
theorem ok20 (fu : Nat) (x1 : Int) (x2 : Int) (r) (h : soft_Mul fu x1 x2 = some r) : PureOK Tryz.prog 20 [.v (.int .u32 x1), .v (.int .u32 x2)] (e20 r) := pureT mixed [(C34 fu).ct] (ids := [34]) rfl (by decide) i20 (C := noC) (ci := fun cp => noI) (fun cp ok => noI_ok) (fun cp H => w20 cp fu x1 x2 (u34 H.1)) h
def d64 : List (Nat × List Nat) := [(0, [2]), (0, []), (0, [0, 3, 4, 5])]
def d64_at := by have h := tabL d64.eq_1; simp only [AllAt, Nat.zero_add, Nat.reduceAdd] at h; exact h
theorem i64 : finfo Tryz.prog 64 d64 = some ⟨bodyOf Tryz.f64, [.tmp 2], [24]⟩ := finfo_at Tryz.func64 rfl (by kernel_rfl) (by kernel_rfl)
def e64 : Int → AV := fun r => .v (.int .u32 r)
set_option maxHeartbeats 20000000 in
theorem w64 (cp : CallP) (fu : Nat) (x1 : Int) (H1 : K66 fu cp) : J (go Tryz.prog noC cp noI 0 [] d64 fu (fin Tryz.prog [.tmp 2] [24]) (bodyOf Tryz.f64) (initE 0 [.v (.int .i64 x1)]) [] []) (soft_nought fu x1) e64 := by
 unfold soft_nought e64
 have da := d64_at
 conv => arg 1; simp only [bodyOf, Tryz.f64]
 have z0 := d64_at
 exact Wk
theorem ok64 (fu : Nat) (x1 : Int) (r) (h : soft_nought fu x1 = some r) : PureOK Tryz.prog 64 [.v (.int .i64 x1)] (e64 r) := pureT mixed [(C66 fu).ct] (ids := [66]) rfl (by decide) i64 (C := noC) (ci := fun cp => noI) (fun cp ok => noI_ok) (fun cp H => w64 cp fu x1 (u66 H.1)) h
open Aw (d33)
def d33_at := by have h := tabL Aw.d33.eq_1; simp only [AllAt, Nat.zero_add, Nat.reduceAdd] at h; exact h
theorem i33 : finfo Tryz.prog 33 d33 = some ⟨bodyOf Tryz.f33, [.tmp 6], [24]⟩ := finfo_at Tryz.func33 rfl (by kernel_rfl) (by kernel_rfl)
def e33 : Int → AV := fun r => .v (.int .u32 r)
structure K64 (fu : Nat) (cp : CallP) : Prop where
 ap : ∀ {a0 : Int} {r}, soft_nought fu a0 = some r → cp 64 [.v (.int .i64 a0)] = some (.v (.int .u32 r))
noncomputable def C64 (fu : Nat) : Cm Tryz.prog Int Int := ⟨64, fun t => [.v (.int .i64 t)], fun t => soft_nought fu t, e64, fun t b h => ok64 fu t  b h, Zi⟩
theorem u64 {fu : Nat} {cp : CallP} (H : Hit cp (C64 fu).ct) : K64 fu cp := ⟨fun {a0 r} h => (C64 fu).at H a0 r h⟩
def soft_AddBy.j3 : LJ 3 3 Unit (Int × Int × Int × Bool) := ⟨fun r t e => [(0, er e 0), (7, er e 7), (8, er e 8), (9, er e 9), (10, .v (.int .i64 t.1)), (11, .v (.int .u64 t.2.1)), (12, .v (.int .u64 t.2.2.1)), (13, .v (.bool t.2.2.2))], fun r t h => [((0, 7, 0), hr h (0, 7, 0)), ((0, 8, 0), hr h (0, 8, 0))]⟩
def soft_AddBy.j2 : LJ 2 28 Unit (Bool × Int × Int × Bool × Int × Int) := ⟨fun r t e => [(0, er e 0), (7, er e 7), (8, er e 8)], fun r t h => [((0, 7, 0), bs (bs (bs (hr h (0, 7, 0)) 0 (.v (.bool t.1))) 3 (.v (.int .i64 t.2.1))) 4 (.v (.int .u64 t.2.2.1))), ((0, 8, 0), bs (bs (bs (hr h (0, 8, 0)) 0 (.v (.bool t.2.2.2.1))) 3 (.v (.int .i64 t.2.2.2.2.1))) 4 (.v (.int .u64 t.2.2.2.2.2)))]⟩
def soft_AddBy.j1 : LJ 1 24 Unit Unit := ⟨fun r t e => [(0, er e 0), (7, er e 7), (8, er e 8)], fun r t h => [((0, 7, 0), bs (bs (hr h (0, 7, 0)) 1 (.v (.bool false))) 2 (.v (.bool false))), ((0, 8, 0), bs (bs (hr h (0, 8, 0)) 1 (.v (.bool false))) 2 (.v (.bool false)))]⟩
set_option maxHeartbeats 20000000 in
open soft_AddBy in
theorem w33 (cp : CallP) (fu : Nat) (x1 : Int) (x2 : Int) (x3 : Int) (H1 : K63 fu cp) (H2 : K64 fu cp) (H3 : K65 fu cp) : J (go Tryz.prog noC cp noI 0 [] d33 fu (fin Tryz.prog [.tmp 6] [24]) (bodyOf Tryz.f33) (initE 0 [.v (.int .i64 x1), .v (.int .u32 x2), .v (.int .u32 x3)]) [] []) (soft_AddBy fu x1 x2 x3) e33 := by
 unfold soft_AddBy e33
 have da := d33_at
 conv => arg 1; simp only [bodyOf, Tryz.f33]
 have z0 := d33_at
 exact Wk
theorem ok33 (fu : Nat) (x1 : Int) (x2 : Int) (x3 : Int) (r) (h : soft_AddBy fu x1 x2 x3 = some r) : PureOK Tryz.prog 33 [.v (.int .i64 x1), .v (.int .u32 x2), .v (.int .u32 x3)] (e33 r) := pureT mixed [(C63 fu).ct, (C64 fu).ct, (C65 fu).ct] (ids := [63, 64, 65]) rfl (by decide) i33 (C := noC) (ci := fun cp => noI) (fun cp ok => noI_ok) (fun cp H => w33 cp fu x1 x2 x3 (u63 H.1) (u64 H.2.1) (u65 H.2.2.1)) h
open Aw (d19)
def d19_at := by have h := tabL Aw.d19.eq_1; simp only [AllAt, Nat.zero_add, Nat.reduceAdd] at h; exact h
theorem i19 : finfo Tryz.prog 19 d19 = some ⟨bodyOf Tryz.f19, [.tmp 4], [24]⟩ := finfo_at Tryz.func19 rfl (by kernel_rfl) (by kernel_rfl)
def e19 : Int → AV := fun r => .v (.int .u32 r)
structure K33 (fu : Nat) (cp : CallP) : Prop where
 ap : ∀ {a0 : Int} {a1 : Int} {a2 : Int} {r}, soft_AddBy fu a0 a1 a2 = some r → cp 33 [.v (.int .i64 a0), .v (.int .u32 a1), .v (.int .u32 a2)] = some (.v (.int .u32 r))
noncomputable def C33 (fu : Nat) : Cm Tryz.prog (Int × Int × Int) Int := ⟨33, fun t => [.v (.int .i64 t.1), .v (.int .u32 t.2.1), .v (.int .u32 t.2.2)], fun t => soft_AddBy fu t.1 t.2.1 t.2.2, e33, fun t b h => ok33 fu t.1 t.2.1 t.2.2  b h, Zi⟩
theorem u33 {fu : Nat} {cp : CallP} (H : Hit cp (C33 fu).ct) : K33 fu cp := ⟨fun {a0 a1 a2 r} h => (C33 fu).at H (a0, a1, a2) r h⟩
set_option maxHeartbeats 20000000 in
theorem w19 (cp : CallP) (fu : Nat) (x1 : Int) (x2 : Int) (H1 : K33 fu cp) : J (go Tryz.prog noC cp noI 0 [] d19 fu (fin Tryz.prog [.tmp 4] [24]) (bodyOf Tryz.f19) (initE 0 [.v (.int .u32 x1), .v (.int .u32 x2)]) [] []) (soft_Add fu x1 x2) e19 := by
 unfold soft_Add e19
 have da := d19_at
 conv => arg 1; simp only [bodyOf, Tryz.f19]
 have z0 := d19_at
 exact Wk
theorem ok19 (fu : Nat) (x1 : Int) (x2 : Int) (r) (h : soft_Add fu x1 x2 = some r) : PureOK Tryz.prog 19 [.v (.int .u32 x1), .v (.int .u32 x2)] (e19 r) := pureT mixed [(C33 fu).ct] (ids := [33]) rfl (by decide) i19 (C := noC) (ci := fun cp => noI) (fun cp ok => noI_ok) (fun cp H => w19 cp fu x1 x2 (u33 H.1)) h
open Aw (d9)
def d9_at := by have h := tabL Aw.d9.eq_1; simp only [AllAt, Nat.zero_add, Nat.reduceAdd] at h; exact h
theorem i9 : finfo Tryz.prog 9 d9 = some ⟨bodyOf Tryz.f9, [.tmp 4], [24]⟩ := finfo_at Tryz.func9 rfl (by kernel_rfl) (by kernel_rfl)
def e9 : Int → AV := fun r => .v (.int .u32 r)
structure K20 (fu : Nat) (cp : CallP) : Prop where
 ap : ∀ {a0 : Int} {a1 : Int} {r}, soft_Mul fu a0 a1 = some r → cp 20 [.v (.int .u32 a0), .v (.int .u32 a1)] = some (.v (.int .u32 r))
noncomputable def C20 (fu : Nat) : Cm Tryz.prog (Int × Int) Int := ⟨20, fun t => [.v (.int .u32 t.1), .v (.int .u32 t.2)], fun t => soft_Mul fu t.1 t.2, e20, fun t b h => ok20 fu t.1 t.2  b h, Zi⟩
theorem u20 {fu : Nat} {cp : CallP} (H : Hit cp (C20 fu).ct) : K20 fu cp := ⟨fun {a0 a1 r} h => (C20 fu).at H (a0, a1) r h⟩
structure K19 (fu : Nat) (cp : CallP) : Prop where
 ap : ∀ {a0 : Int} {a1 : Int} {r}, soft_Add fu a0 a1 = some r → cp 19 [.v (.int .u32 a0), .v (.int .u32 a1)] = some (.v (.int .u32 r))
noncomputable def C19 (fu : Nat) : Cm Tryz.prog (Int × Int) Int := ⟨19, fun t => [.v (.int .u32 t.1), .v (.int .u32 t.2)], fun t => soft_Add fu t.1 t.2, e19, fun t b h => ok19 fu t.1 t.2  b h, Zi⟩
theorem u19 {fu : Nat} {cp : CallP} (H : Hit cp (C19 fu).ct) : K19 fu cp := ⟨fun {a0 a1 r} h => (C19 fu).at H (a0, a1) r h⟩
def mat_Dot.m1 : LJ 1 6 Unit (Int × Int) := ⟨fun r s e => [(0, er e 0), (1, er e 1), (5, .v (.int .u32 s.1)), (11, er e 11), (12, .v (.int .i64 s.2))], fun r s h => []⟩
set_option maxHeartbeats 20000000 in
open mat_Dot in
theorem w9 (cp : CallP) (fu : Nat) (x1 : List Int) (x2 : List Int) (H1 : K20 fu cp) (H2 : K19 fu cp) : J (go Tryz.prog noC cp noI 0 [] d9 fu (fin Tryz.prog [.tmp 4] [24]) (bodyOf Tryz.f9) (initE 0 [.arr x1.length (lm (ik .u32) x1), .arr x2.length (lm (ik .u32) x2)]) [] []) (mat_Dot fu x1 x2) e9 := by
 unfold mat_Dot e9
 have da := d9_at
 conv => arg 1; simp only [bodyOf, Tryz.f9]
 have z0 := d9_at
 exact Wk
theorem ok9 (fu : Nat) (x1 : List Int) (x2 : List Int) (r) (h : mat_Dot fu x1 x2 = some r) : PureOK Tryz.prog 9 [.arr x1.length (lm (ik .u32) x1), .arr x2.length (lm (ik .u32) x2)] (e9 r) := pureT mixed [(C20 fu).ct, (C19 fu).ct] (ids := [20, 19]) rfl (by decide) i9 (C := noC) (ci := fun cp => noI) (fun cp ok => noI_ok) (fun cp H => w9 cp fu x1 x2 (u20 H.1) (u19 H.2.1)) h
open Aw (d106)
def d106_at := by have h := tabL Aw.d106.eq_1; simp only [AllAt, Nat.zero_add, Nat.reduceAdd] at h; exact h
theorem i106 : finfo Tryz.prog 106 d106 = some ⟨bodyOf Tryz.f106, [.tmp 2], [27]⟩ := finfo_at Tryz.func106 rfl (by kernel_rfl) (by kernel_rfl)
def e106 : (List Int) → AV := fun r => .fresh 1 r.length (lm (ik .i64) r)
def shape_strides.m1 : LJ 1 8 Unit ((List Int) × Int × Int) := ⟨fun r s e => [(0, er e 0), (3, .own (0, 8, 0) 0 s.1.length s.1.length), (4, .v (.int .i64 s.2.1)), (5, .v (.int .i64 s.2.2))], fun r s h => [((0, 8, 0), .sl true true 1 s.1.length (lm (ik .i64) s.1))]⟩
set_option maxHeartbeats 20000000 in
open shape_strides in
theorem w106 (cp : CallP) (fu : Nat) (x1 : List Int)  : J (go Tryz.prog noC cp noI 0 [] d106 fu (fin Tryz.prog [.tmp 2] [27]) (bodyOf Tryz.f106) (initE 0 [.arr x1.length (lm (ik .i64) x1)]) [] []) (shape_strides fu x1) e106 := by
 unfold shape_strides e106
 have da := d106_at
 conv => arg 1; simp only [bodyOf, Tryz.f106]
 have z0 := d106_at
 exact Wk
theorem ok106 (fu : Nat) (x1 : List Int) (r) (h : shape_strides fu x1 = some r) : PureOK Tryz.prog 106 [.arr x1.length (lm (ik .i64) x1)] (e106 r) := pureT mixed [] (ids := []) rfl (by decide) i106 (C := noC) (ci := fun cp => noI) (fun cp ok => noI_ok) (fun cp H => w106 cp fu x1 ) h
open Aw (d105)
def d105_at := by have h := tabL Aw.d105.eq_1; simp only [AllAt, Nat.zero_add, Nat.reduceAdd] at h; exact h
theorem i105 : finfo Tryz.prog 105 d105 = some ⟨bodyOf Tryz.f105, [.tmp 4, .tmp 5], [27, 35]⟩ := finfo_at Tryz.func105 rfl (by kernel_rfl) (by kernel_rfl)
def e105 : ((List Int) × Int) → AV := fun r => .tuple [.fresh 1 r.1.length (lm (ik .i64) r.1), .v (.int .i64 r.2)]
structure K106 (fu : Nat) (cp : CallP) : Prop where
 ap : ∀ {a0 : List Int} {r}, shape_strides fu a0 = some r → cp 106 [.arr a0.length (lm (ik .i64) a0)] = some (.fresh 1 r.length (lm (ik .i64) r))
noncomputable def C106 (fu : Nat) : Cm Tryz.prog (List Int) (List Int) := ⟨106, fun t => [.arr t.length (lm (ik .i64) t)], fun t => shape_strides fu t, e106, fun t b h => ok106 fu t  b h, Zi⟩
theorem u106 {fu : Nat} {cp : CallP} (H : Hit cp (C106 fu).ct) : K106 fu cp := ⟨fun {a0 r} h => (C106 fu).at H a0 r h⟩
def shape_Index.m1 : LJ 1 16 Unit ((List Int) × Int × Int) := ⟨fun r s e => [(1, .v (.int .i64 s.2.1)), (8, .own (0, 28, 0) 0 s.1.length s.1.length), (30, er e 30), (31, er e 31), (32, .v (.int .i64 s.2.2))], fun r s h => [((0, 28, 0), .sl true true 1 s.1.length (lm (ik .i64) s.1)), ((0, 30, 0), hr h (0, 30, 0))]⟩
def shape_Index.j1 : LJ 1 12 Unit Unit := ⟨fun r t e => [(0, er e 0), (1, er e 1)], fun r t h => []⟩
set_option maxHeartbeats 20000000 in
open shape_Index in
theorem w105 (cp : CallP) (fu : Nat) (x1 : List Int) (x2 : Int) (H1 : K27 fu cp) (H2 : K106 fu cp) : J (go Tryz.prog noC cp noI 0 [] d105 fu (fin Tryz.prog [.tmp 4, .tmp 5] [27, 35]) (bodyOf Tryz.f105) (initE 0 [.arr x1.length (lm (ik .i64) x1), .v (.int .i64 x2)]) [] []) (shape_Index fu x1 x2) e105 := by
 unfold shape_Index e105
 have da := d105_at
 conv => arg 1; simp only [bodyOf, Tryz.f105]
 have z0 := d105_at
 exact Wk
theorem ok105 (fu : Nat) (x1 : List Int) (x2 : Int) (r) (h : shape_Index fu x1 x2 = some r) : PureOK Tryz.prog 105 [.arr x1.length (lm (ik .i64) x1), .v (.int .i64 x2)] (e105 r) := pureT mixed [(C27 fu).ct, (C106 fu).ct] (ids := [27, 106]) rfl (by decide) i105 (C := noC) (ci := fun cp => noI) (fun cp ok => noI_ok) (fun cp H => w105 cp fu x1 x2 (u27 H.1) (u106 H.2.1)) h
open Aw (d50)
def d50_at := by have h := tabL Aw.d50.eq_1; simp only [AllAt, Nat.zero_add, Nat.reduceAdd] at h; exact h
theorem i50 : finfo Tryz.prog 50 d50 = some ⟨bodyOf Tryz.f50, [.tmp 6, .tmp 7], [3, 35]⟩ := finfo_at Tryz.func50 rfl (by kernel_rfl) (by kernel_rfl)
def e50 : (Int × Int) → AV := fun r => .tuple [.v (.int .i64 r.1), .v (.int .i64 r.2)]
structure K105 (fu : Nat) (cp : CallP) : Prop where
 ap : ∀ {a0 : List Int} {a1 : Int} {r}, shape_Index fu a0 a1 = some r → cp 105 [.arr a0.length (lm (ik .i64) a0), .v (.int .i64 a1)] = some (.tuple [.fresh 1 r.1.length (lm (ik .i64) r.1), .v (.int .i64 r.2)])
noncomputable def C105 (fu : Nat) : Cm Tryz.prog ((List Int) × Int) ((List Int) × Int) := ⟨105, fun t => [.arr t.1.length (lm (ik .i64) t.1), .v (.int .i64 t.2)], fun t => shape_Index fu t.1 t.2, e105, fun t b h => ok105 fu t.1 t.2  b h, Zi⟩
theorem u105 {fu : Nat} {cp : CallP} (H : Hit cp (C105 fu).ct) : K105 fu cp := ⟨fun {a0 a1 r} h => (C105 fu).at H (a0, a1) r h⟩
def shape_From.m1 : LJ 1 32 Unit (Int × Int) := ⟨fun r s e => [(0, er e 0), (14, er e 14), (15, .v (.int .i64 s.1)), (65, er e 65), (66, er e 66), (67, .v (.int .i64 s.2))], fun r s h => [((0, 65, 0), hr h (0, 65, 0))]⟩
def shape_From.j1 : LJ 1 20 Unit Unit := ⟨fun r t e => [(0, er e 0), (1, er e 1), (2, er e 2)], fun r t h => []⟩
set_option maxHeartbeats 20000000 in
open shape_From in
theorem w50 (cp : CallP) (fu : Nat) (x1 : List Int) (x2 : List Int) (x3 : Int) (H1 : K27 fu cp) (H2 : K49 fu cp) (H3 : K104 fu cp) (H4 : K105 fu cp) (H5 : K106 fu cp) : J (go Tryz.prog noC cp noI 0 [] d50 fu (fin Tryz.prog [.tmp 6, .tmp 7] [3, 35]) (bodyOf Tryz.f50) (initE 0 [.arr x1.length (lm (ik .i64) x1), .arr x2.length (lm (ik .i64) x2), .v (.int .i64 x3)]) [] []) (shape_From fu x1 x2 x3) e50 := by
 unfold shape_From e50
 have da := d50_at
 conv => arg 1; simp only [bodyOf, Tryz.f50]
 have z0 := d50_at
 exact Wk
theorem ok50 (fu : Nat) (x1 : List Int) (x2 : List Int) (x3 : Int) (r) (h : shape_From fu x1 x2 x3 = some r) : PureOK Tryz.prog 50 [.arr x1.length (lm (ik .i64) x1), .arr x2.length (lm (ik .i64) x2), .v (.int .i64 x3)] (e50 r) := pureT mixed [(C27 fu).ct, (C49 fu).ct, (C104 fu).ct, (C105 fu).ct, (C106 fu).ct] (ids := [27, 49, 104, 105, 106]) rfl (by decide) i50 (C := noC) (ci := fun cp => noI) (fun cp ok => noI_ok) (fun cp H => w50 cp fu x1 x2 x3 (u27 H.1) (u49 H.2.1) (u104 H.2.2.1) (u105 H.2.2.2.1) (u106 H.2.2.2.2.1)) h
open Aw (d51)
def d51_at := by have h := tabL Aw.d51.eq_1; simp only [AllAt, Nat.zero_add, Nat.reduceAdd] at h; exact h
noncomputable def b51 : Code := bodyOf Tryz.f51
theorem go_b51 {C : Cfg} {cp : CallP} {ci : CallI} {lvl : Nat} {prot : List Id} {D : List (Nat × List Nat)} {n : Nat} {K : KK} {e : Env} {h : Heap} {fs : List Fr} : go Tryz.prog C cp ci lvl prot D n K b51 e h fs = go Tryz.prog C cp ci lvl prot D n K (bodyOf Tryz.f51) e h fs := rfl
theorem i51 : finfo Tryz.prog 51 d51 = some ⟨b51, [], []⟩ := finfo_at Tryz.func51 rfl (by kernel_rfl) (by kernel_rfl)
end Go.Av
