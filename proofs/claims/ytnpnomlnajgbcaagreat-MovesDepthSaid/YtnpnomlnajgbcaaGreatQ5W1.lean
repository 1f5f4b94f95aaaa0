/- The walks of the plain functions. Made by a program of mine. Conditions: none. -/
import Derived.Test.YtnpnomlnajgbcaaGreatQ5S
import Derived.Test.YtnpnomlnajgbcaaGreatQ5A
import Derived.Test.YtnpnomlnajgbcaaGreatProg
set_option linter.unusedVariables false
set_option linter.unusedSimpArgs false
set_option linter.defProp false
set_option maxRecDepth 20000
open Go Go.Proofs
namespace Go.Av
theorem mixed : Tryz.prog.follows .mixedOrders = true := by kernel_rfl
def bodyOf (f : Func) : Code := f.body.getD .skip
theorem tv2 : tview Tryz.prog 2 = some (.int .i64) := by kernel_rfl
theorem ts2 : tsize Tryz.prog 2 = 1 := by kernel_rfl
def pt2 := @ptW _ _ _ tv2 rfl
def st2 := @stW _ _ ts2
theorem tv3 : tview Tryz.prog 3 = some (.int .i64) := by kernel_rfl
theorem ts3 : tsize Tryz.prog 3 = 1 := by kernel_rfl
def pt3 := @ptW _ _ _ tv3 rfl
def st3 := @stW _ _ ts3
theorem tv4 : tview Tryz.prog 4 = some (.bool) := by kernel_rfl
theorem ts4 : tsize Tryz.prog 4 = 1 := by kernel_rfl
def pt4 := @ptW _ _ _ tv4 rfl
def sb4 := @sbW _ _ ts4
theorem tv5 : tview Tryz.prog 5 = some (.int .u8) := by kernel_rfl
theorem ts5 : tsize Tryz.prog 5 = 1 := by kernel_rfl
def pt5 := @ptW _ _ _ tv5 rfl
def st5 := @stW _ _ ts5
theorem tv9 : tview Tryz.prog 9 = some (.str) := by kernel_rfl
theorem ts9 : tsize Tryz.prog 9 = 1 := by kernel_rfl
def pt9 := @ptW _ _ _ tv9 rfl
theorem le9 : ∀ {s : ByteArray}, abuiltin Tryz.prog .len #[9] [.v (.string s)] = some (.v (.int .i64 s.size)) := len_str tv9
theorem ix9 : ∀ {s : ByteArray} {i : Int}, aindex Tryz.prog 9 (.v (.string s)) i = aixS s i := ix_str tv9
theorem tv22 : tview Tryz.prog 22 = some (.slice 3 1 8) := by kernel_rfl
theorem ts22 : tsize Tryz.prog 22 = 1 := by kernel_rfl
def pt22 := @ptW _ _ _ tv22 rfl
def ia22 := @iaW _ _ _ _ _ tv22
def io22 := @ioW _ _ _ _ _ tv22
def le22 := @leW _ _ _ _ _ tv22
theorem tz3 : tzero Tryz.prog 3 = some [.v (.int .i64 0)] := by kernel_rfl
theorem mk22 : ∀ {a b : Int} {k k' : IntKind}, 0 ≤ a → a ≤ b → b ≤ 140737488355328 → b * 8 ≤ 140737488355328 → mkX Tryz.prog 22 (.v (.int k a)) (.v (.int k' b)) = some (.fresh 1 a.toNat (lm (ik .i64) (List.replicate a.toNat 0))) := mk_ik tv22 tz3
def ap22 := @apW _ _ _ _ _ _ tv22 tz3 rfl (by decide)
def bs22 := @bsW _ _ _ _ _ _ tv22 tz3 rfl (by decide)
def sa22 := @saW _ _ ts22
def so22 := @soW _ _ ts22
theorem tv23 : tview Tryz.prog 23 = some (.slice 33 1 4) := by kernel_rfl
theorem ts23 : tsize Tryz.prog 23 = 1 := by kernel_rfl
def pt23 := @ptW _ _ _ tv23 rfl
def ia23 := @iaW _ _ _ _ _ tv23
def io23 := @ioW _ _ _ _ _ tv23
def le23 := @leW _ _ _ _ _ tv23
theorem tz33 : tzero Tryz.prog 33 = some [.v (.int .u32 0)] := by kernel_rfl
theorem mk23 : ∀ {a b : Int} {k k' : IntKind}, 0 ≤ a → a ≤ b → b ≤ 140737488355328 → b * 4 ≤ 140737488355328 → mkX Tryz.prog 23 (.v (.int k a)) (.v (.int k' b)) = some (.fresh 1 a.toNat (lm (ik .u32) (List.replicate a.toNat 0))) := mk_ik tv23 tz33
def ap23 := @apW _ _ _ _ _ _ tv23 tz33 rfl (by decide)
def bs23 := @bsW _ _ _ _ _ _ tv23 tz33 rfl (by decide)
def sa23 := @saW _ _ ts23
def so23 := @soW _ _ ts23
theorem tv24 : tview Tryz.prog 24 = some (.slice 2 1 8) := by kernel_rfl
theorem ts24 : tsize Tryz.prog 24 = 1 := by kernel_rfl
def pt24 := @ptW _ _ _ tv24 rfl
def ia24 := @iaW _ _ _ _ _ tv24
def io24 := @ioW _ _ _ _ _ tv24
def le24 := @leW _ _ _ _ _ tv24
theorem tz2 : tzero Tryz.prog 2 = some [.v (.int .i64 0)] := by kernel_rfl
theorem mk24 : ∀ {a b : Int} {k k' : IntKind}, 0 ≤ a → a ≤ b → b ≤ 140737488355328 → b * 8 ≤ 140737488355328 → mkX Tryz.prog 24 (.v (.int k a)) (.v (.int k' b)) = some (.fresh 1 a.toNat (lm (ik .i64) (List.replicate a.toNat 0))) := mk_ik tv24 tz2
def ap24 := @apW _ _ _ _ _ _ tv24 tz2 rfl (by decide)
def bs24 := @bsW _ _ _ _ _ _ tv24 tz2 rfl (by decide)
def sa24 := @saW _ _ ts24
def so24 := @soW _ _ ts24
theorem tv25 : tview Tryz.prog 25 = some (.slice 4 1 1) := by kernel_rfl
theorem ts25 : tsize Tryz.prog 25 = 1 := by kernel_rfl
def pt25 := @ptW _ _ _ tv25 rfl
def ia25 := @iaW _ _ _ _ _ tv25
def io25 := @ioW _ _ _ _ _ tv25
def le25 := @leW _ _ _ _ _ tv25
theorem tz4 : tzero Tryz.prog 4 = some [.v (.bool false)] := by kernel_rfl
theorem mk25 : ∀ {a b : Int} {k k' : IntKind}, 0 ≤ a → a ≤ b → b ≤ 140737488355328 → b * 1 ≤ 140737488355328 → mkX Tryz.prog 25 (.v (.int k a)) (.v (.int k' b)) = some (.fresh 1 a.toNat (lm bk (List.replicate a.toNat false))) := mk_bk tv25 tz4
def ap25 := @apW _ _ _ _ _ _ tv25 tz4 rfl (by decide)
def bs25 := @bsW _ _ _ _ _ _ tv25 tz4 rfl (by decide)
def sa25 := @saW _ _ ts25
def so25 := @soW _ _ ts25
theorem tv27 : tview Tryz.prog 27 = some (.struct) := by kernel_rfl
theorem ts27 : tsize Tryz.prog 27 = 5 := by kernel_rfl
theorem pt27 : ∀ {xs : List AV} {off : Nat}, part Tryz.prog xs 27 off = if off + 5 ≤ xs.length then some (.agg ((xs.drop off).take 5)) else none := part_struct tv27 ts27
theorem sg27 : ∀ {h : Heap} {id : Id} {off : Nat} {ys : List AV}, ys.length = 5 → stX Tryz.prog 27 h (.ptr id off 0) (.agg ys) = (h.get id).bind (stH Tryz.prog 27 h id off ys) := stX_aggH ts27 (by decide)
theorem tv29 : tview Tryz.prog 29 = some (.slice 27 5 104) := by kernel_rfl
theorem ts29 : tsize Tryz.prog 29 = 1 := by kernel_rfl
def pt29 := @ptW _ _ _ tv29 rfl
def ia29 := @iaW _ _ _ _ _ tv29
def io29 := @ioW _ _ _ _ _ tv29
def le29 := @leW _ _ _ _ _ tv29
theorem tz27 : tzero Tryz.prog 27 = some [.v (.int .i64 0), .v (.slice none 0 0), .v (.slice none 0 0), .v (.slice none 0 0), .v (.slice none 0 0)] := by kernel_rfl
def ap29 := @apW _ _ _ _ _ _ tv29 tz27 rfl (by decide)
theorem af29 : ∀ {lvl d m : Nat} {h : Heap} {id : Id} {n by_ : Nat} {l b : List T_Tensor}, m = b.length → n + m ≤ 140737488355328 → (n + m) * by_ ≤ 140737488355328 → appI lvl d 5 by_ h m (fm c_T_Tensor b) id n n (.sl true true 5 n (fm c_T_Tensor l)) = some (.own id 0 (n + m) (n + m), h.set id (.sl true true 5 (n + m) (fm c_T_Tensor (l ++ b)))) := fun h1 h2 h3 => appI_fm c_T_Tensor_len h1 h2 h3 (one_fm c_T_Tensor_one)
def bs29 := @bsW _ _ _ _ _ _ tv29 tz27 rfl (by decide)
def sa29 := @saW _ _ ts29
def so29 := @soW _ _ ts29
theorem tv30 : tview Tryz.prog 30 = some (.int .i64) := by kernel_rfl
theorem ts30 : tsize Tryz.prog 30 = 1 := by kernel_rfl
def pt30 := @ptW _ _ _ tv30 rfl
def st30 := @stW _ _ ts30
theorem tv33 : tview Tryz.prog 33 = some (.int .u32) := by kernel_rfl
theorem ts33 : tsize Tryz.prog 33 = 1 := by kernel_rfl
def pt33 := @ptW _ _ _ tv33 rfl
def st33 := @stW _ _ ts33
theorem tv35 : tview Tryz.prog 35 = some (.struct) := by kernel_rfl
theorem ts35 : tsize Tryz.prog 35 = 36 := by kernel_rfl
theorem pt35 : ∀ {xs : List AV} {off : Nat}, part Tryz.prog xs 35 off = if off + 36 ≤ xs.length then some (.agg ((xs.drop off).take 36)) else none := part_struct tv35 ts35
theorem sg35 : ∀ {h : Heap} {id : Id} {off : Nat} {ys : List AV}, ys.length = 36 → stX Tryz.prog 35 h (.ptr id off 0) (.agg ys) = (h.get id).bind (stH Tryz.prog 35 h id off ys) := stX_aggH ts35 (by decide)
theorem tv50 : tview Tryz.prog 50 = some (.other) := by kernel_rfl
theorem ts50 : tsize Tryz.prog 50 = 1 := by kernel_rfl
def pt50 := @ptW _ _ _ tv50 rfl
theorem tv52 : tview Tryz.prog 52 = some (.struct) := by kernel_rfl
theorem ts52 : tsize Tryz.prog 52 = 44 := by kernel_rfl
theorem pt52 : ∀ {xs : List AV} {off : Nat}, part Tryz.prog xs 52 off = if off + 44 ≤ xs.length then some (.agg ((xs.drop off).take 44)) else none := part_struct tv52 ts52
theorem tv53 : tview Tryz.prog 53 = some (.slice 62 8 144) := by kernel_rfl
theorem ts53 : tsize Tryz.prog 53 = 1 := by kernel_rfl
def pt53 := @ptW _ _ _ tv53 rfl
def ia53 := @iaW _ _ _ _ _ tv53
def io53 := @ioW _ _ _ _ _ tv53
def le53 := @leW _ _ _ _ _ tv53
theorem tz62 : tzero Tryz.prog 62 = some [.v (.int .i64 0), .v (.slice none 0 0), .v (.bool false), .v (.int .i64 0), .v (.slice none 0 0), .v (.slice none 0 0), .v (.slice none 0 0), .v (.slice none 0 0)] := by kernel_rfl
def ap53 := @apW _ _ _ _ _ _ tv53 tz62 rfl (by decide)
theorem af53 : ∀ {lvl d m : Nat} {h : Heap} {id : Id} {n by_ : Nat} {l b : List T_Val}, m = b.length → n + m ≤ 140737488355328 → (n + m) * by_ ≤ 140737488355328 → appI lvl d 8 by_ h m (fm c_T_Val b) id n n (.sl true true 8 n (fm c_T_Val l)) = some (.own id 0 (n + m) (n + m), h.set id (.sl true true 8 (n + m) (fm c_T_Val (l ++ b)))) := fun h1 h2 h3 => appI_fm c_T_Val_len h1 h2 h3 (one_fm c_T_Val_one)
def bs53 := @bsW _ _ _ _ _ _ tv53 tz62 rfl (by decide)
def sa53 := @saW _ _ ts53
def so53 := @soW _ _ ts53
theorem tv62 : tview Tryz.prog 62 = some (.struct) := by kernel_rfl
theorem ts62 : tsize Tryz.prog 62 = 8 := by kernel_rfl
theorem pt62 : ∀ {xs : List AV} {off : Nat}, part Tryz.prog xs 62 off = if off + 8 ≤ xs.length then some (.agg ((xs.drop off).take 8)) else none := part_struct tv62 ts62
theorem sg62 : ∀ {h : Heap} {id : Id} {off : Nat} {ys : List AV}, ys.length = 8 → stX Tryz.prog 62 h (.ptr id off 0) (.agg ys) = (h.get id).bind (stH Tryz.prog 62 h id off ys) := stX_aggH ts62 (by decide)
theorem tv67 : tview Tryz.prog 67 = some (.struct) := by kernel_rfl
theorem ts67 : tsize Tryz.prog 67 = 39 := by kernel_rfl
theorem pt67 : ∀ {xs : List AV} {off : Nat}, part Tryz.prog xs 67 off = if off + 39 ≤ xs.length then some (.agg ((xs.drop off).take 39)) else none := part_struct tv67 ts67
theorem sg67 : ∀ {h : Heap} {id : Id} {off : Nat} {ys : List AV}, ys.length = 39 → stX Tryz.prog 67 h (.ptr id off 0) (.agg ys) = (h.get id).bind (stH Tryz.prog 67 h id off ys) := stX_aggH ts67 (by decide)
theorem tv69 : tview Tryz.prog 69 = some (.slice 22 1 24) := by kernel_rfl
theorem ts69 : tsize Tryz.prog 69 = 1 := by kernel_rfl
def pt69 := @ptW _ _ _ tv69 rfl
def ia69 := @iaW _ _ _ _ _ tv69
def io69 := @ioW _ _ _ _ _ tv69
def le69 := @leW _ _ _ _ _ tv69
theorem tz22 : tzero Tryz.prog 22 = some [.v (.slice none 0 0)] := by kernel_rfl
def bs69 := @bsW _ _ _ _ _ _ tv69 tz22 rfl (by decide)
def sa69 := @saW _ _ ts69
def so69 := @soW _ _ ts69
theorem tv77 : tview Tryz.prog 77 = some (.other) := by kernel_rfl
theorem ts77 : tsize Tryz.prog 77 = 1 := by kernel_rfl
def pt77 := @ptW _ _ _ tv77 rfl
theorem fo27_0 : fieldOf Tryz.prog 27 0 = some (0, 3) := by kernel_rfl
def fp27_0 := @fpW _ _ _ _ _ _ fo27_0 ts3 (by decide)
def fr27_0 := @frW _ _ _ _ _ _ fo27_0 ts3 (by decide)
theorem fo27_1 : fieldOf Tryz.prog 27 1 = some (1, 22) := by kernel_rfl
def fp27_1 := @fpW _ _ _ _ _ _ fo27_1 ts22 (by decide)
def fr27_1 := @frW _ _ _ _ _ _ fo27_1 ts22 (by decide)
theorem fo27_2 : fieldOf Tryz.prog 27 2 = some (2, 23) := by kernel_rfl
def fp27_2 := @fpW _ _ _ _ _ _ fo27_2 ts23 (by decide)
def fr27_2 := @frW _ _ _ _ _ _ fo27_2 ts23 (by decide)
theorem fo27_3 : fieldOf Tryz.prog 27 3 = some (3, 24) := by kernel_rfl
def fp27_3 := @fpW _ _ _ _ _ _ fo27_3 ts24 (by decide)
def fr27_3 := @frW _ _ _ _ _ _ fo27_3 ts24 (by decide)
theorem fo27_4 : fieldOf Tryz.prog 27 4 = some (4, 25) := by kernel_rfl
def fp27_4 := @fpW _ _ _ _ _ _ fo27_4 ts25 (by decide)
def fr27_4 := @frW _ _ _ _ _ _ fo27_4 ts25 (by decide)
theorem fo35_0 : fieldOf Tryz.prog 35 0 = some (0, 3) := by kernel_rfl
def fp35_0 := @fpW _ _ _ _ _ _ fo35_0 ts3 (by decide)
def fr35_0 := @frW _ _ _ _ _ _ fo35_0 ts3 (by decide)
theorem fo35_16 : fieldOf Tryz.prog 35 16 = some (16, 3) := by kernel_rfl
def fp35_16 := @fpW _ _ _ _ _ _ fo35_16 ts3 (by decide)
def fr35_16 := @frW _ _ _ _ _ _ fo35_16 ts3 (by decide)
theorem fo35_27 : fieldOf Tryz.prog 35 27 = some (27, 3) := by kernel_rfl
def fp35_27 := @fpW _ _ _ _ _ _ fo35_27 ts3 (by decide)
def fr35_27 := @frW _ _ _ _ _ _ fo35_27 ts3 (by decide)
theorem fo52_0 : fieldOf Tryz.prog 52 0 = some (0, 3) := by kernel_rfl
def fp52_0 := @fpW _ _ _ _ _ _ fo52_0 ts3 (by decide)
def fr52_0 := @frW _ _ _ _ _ _ fo52_0 ts3 (by decide)
theorem fo52_1 : fieldOf Tryz.prog 52 1 = some (1, 35) := by kernel_rfl
def fp52_1 := @fpW _ _ _ _ _ _ fo52_1 ts35 (by decide)
def fr52_1 := @frW _ _ _ _ _ _ fo52_1 ts35 (by decide)
theorem fo52_2 : fieldOf Tryz.prog 52 2 = some (37, 29) := by kernel_rfl
def fp52_2 := @fpW _ _ _ _ _ _ fo52_2 ts29 (by decide)
def fr52_2 := @frW _ _ _ _ _ _ fo52_2 ts29 (by decide)
theorem fo52_3 : fieldOf Tryz.prog 52 3 = some (38, 27) := by kernel_rfl
def fp52_3 := @fpW _ _ _ _ _ _ fo52_3 ts27 (by decide)
def fr52_3 := @frW _ _ _ _ _ _ fo52_3 ts27 (by decide)
theorem fo52_4 : fieldOf Tryz.prog 52 4 = some (43, 3) := by kernel_rfl
def fp52_4 := @fpW _ _ _ _ _ _ fo52_4 ts3 (by decide)
def fr52_4 := @frW _ _ _ _ _ _ fo52_4 ts3 (by decide)
theorem fo62_0 : fieldOf Tryz.prog 62 0 = some (0, 3) := by kernel_rfl
def fp62_0 := @fpW _ _ _ _ _ _ fo62_0 ts3 (by decide)
def fr62_0 := @frW _ _ _ _ _ _ fo62_0 ts3 (by decide)
theorem fd62_0 : ∀ {xs : List AV}, fdX Tryz.prog 62 0 (.agg xs) = part Tryz.prog xs 3 0 := fdX_at fo62_0
theorem fo62_1 : fieldOf Tryz.prog 62 1 = some (1, 22) := by kernel_rfl
def fp62_1 := @fpW _ _ _ _ _ _ fo62_1 ts22 (by decide)
def fr62_1 := @frW _ _ _ _ _ _ fo62_1 ts22 (by decide)
theorem fd62_1 : ∀ {xs : List AV}, fdX Tryz.prog 62 1 (.agg xs) = part Tryz.prog xs 22 1 := fdX_at fo62_1
theorem fo62_2 : fieldOf Tryz.prog 62 2 = some (2, 4) := by kernel_rfl
def fp62_2 := @fpW _ _ _ _ _ _ fo62_2 ts4 (by decide)
def fr62_2 := @frW _ _ _ _ _ _ fo62_2 ts4 (by decide)
theorem fo62_3 : fieldOf Tryz.prog 62 3 = some (3, 27) := by kernel_rfl
def fp62_3 := @fpW _ _ _ _ _ _ fo62_3 ts27 (by decide)
def fr62_3 := @frW _ _ _ _ _ _ fo62_3 ts27 (by decide)
theorem fo67_0 : fieldOf Tryz.prog 67 0 = some (0, 3) := by kernel_rfl
def fp67_0 := @fpW _ _ _ _ _ _ fo67_0 ts3 (by decide)
def fr67_0 := @frW _ _ _ _ _ _ fo67_0 ts3 (by decide)
theorem fo67_1 : fieldOf Tryz.prog 67 1 = some (1, 35) := by kernel_rfl
def fp67_1 := @fpW _ _ _ _ _ _ fo67_1 ts35 (by decide)
def fr67_1 := @frW _ _ _ _ _ _ fo67_1 ts35 (by decide)
theorem fo67_2 : fieldOf Tryz.prog 67 2 = some (37, 53) := by kernel_rfl
def fp67_2 := @fpW _ _ _ _ _ _ fo67_2 ts53 (by decide)
def fr67_2 := @frW _ _ _ _ _ _ fo67_2 ts53 (by decide)
theorem fo67_3 : fieldOf Tryz.prog 67 3 = some (38, 3) := by kernel_rfl
def fp67_3 := @fpW _ _ _ _ _ _ fo67_3 ts3 (by decide)
def fr67_3 := @frW _ _ _ _ _ _ fo67_3 ts3 (by decide)
def bl27 := @blW _ _ _ tz27 tv27
theorem fl27_0 : flP Tryz.prog 27 0 = some (0, 1) := @flW _ _ _ _ _ _ fo27_0 ts3
theorem fl27_1 : flP Tryz.prog 27 1 = some (1, 1) := @flW _ _ _ _ _ _ fo27_1 ts22
theorem fl27_2 : flP Tryz.prog 27 2 = some (2, 1) := @flW _ _ _ _ _ _ fo27_2 ts23
theorem fl27_3 : flP Tryz.prog 27 3 = some (3, 1) := @flW _ _ _ _ _ _ fo27_3 ts24
theorem fl27_4 : flP Tryz.prog 27 4 = some (4, 1) := @flW _ _ _ _ _ _ fo27_4 ts25
theorem tz35 : tzero Tryz.prog 35 = some [.v (.int .i64 0), .v (.slice none 0 0), .v (.bool false), .v (.bool false), .v (.bool false), .v (.bool false), .v (.bool false), .v (.slice none 0 0), .v (.bool false), .v (.int .u32 0), .v (.int .u32 0), .v (.int .u32 0), .v (.bool false), .v (.bool false), .v (.bool false), .v (.int .i64 0), .v (.int .i64 0), .v (.bool false), .v (.bool false), .v (.int .i64 0), .v (.slice none 0 0), .v (.slice none 0 0), .v (.slice none 0 0), .v (.slice none 0 0), .v (.int .i64 0), .v (.bool false), .v (.bool false), .v (.int .i64 0), .v (.int .i64 0), .v (.int .i64 0), .v (.bool false), .v (.int .i64 0), .v (.slice none 0 0), .v (.slice none 0 0), .v (.slice none 0 0), .v (.slice none 0 0)] := by kernel_rfl
def bl35 := @blW _ _ _ tz35 tv35
theorem fl35_0 : flP Tryz.prog 35 0 = some (0, 1) := @flW _ _ _ _ _ _ fo35_0 ts3
theorem fl35_16 : flP Tryz.prog 35 16 = some (16, 1) := @flW _ _ _ _ _ _ fo35_16 ts3
theorem fl35_27 : flP Tryz.prog 35 27 = some (27, 1) := @flW _ _ _ _ _ _ fo35_27 ts3
theorem tz52 : tzero Tryz.prog 52 = some [.v (.int .i64 0), .v (.int .i64 0), .v (.slice none 0 0), .v (.bool false), .v (.bool false), .v (.bool false), .v (.bool false), .v (.bool false), .v (.slice none 0 0), .v (.bool false), .v (.int .u32 0), .v (.int .u32 0), .v (.int .u32 0), .v (.bool false), .v (.bool false), .v (.bool false), .v (.int .i64 0), .v (.int .i64 0), .v (.bool false), .v (.bool false), .v (.int .i64 0), .v (.slice none 0 0), .v (.slice none 0 0), .v (.slice none 0 0), .v (.slice none 0 0), .v (.int .i64 0), .v (.bool false), .v (.bool false), .v (.int .i64 0), .v (.int .i64 0), .v (.int .i64 0), .v (.bool false), .v (.int .i64 0), .v (.slice none 0 0), .v (.slice none 0 0), .v (.slice none 0 0), .v (.slice none 0 0), .v (.slice none 0 0), .v (.int .i64 0), .v (.slice none 0 0), .v (.slice none 0 0), .v (.slice none 0 0), .v (.slice none 0 0), .v (.int .i64 0)] := by kernel_rfl
def bl52 := @blW _ _ _ tz52 tv52
theorem fl52_0 : flP Tryz.prog 52 0 = some (0, 1) := @flW _ _ _ _ _ _ fo52_0 ts3
theorem fl52_1 : flP Tryz.prog 52 1 = some (1, 36) := @flW _ _ _ _ _ _ fo52_1 ts35
theorem fl52_2 : flP Tryz.prog 52 2 = some (37, 1) := @flW _ _ _ _ _ _ fo52_2 ts29
theorem fl52_3 : flP Tryz.prog 52 3 = some (38, 5) := @flW _ _ _ _ _ _ fo52_3 ts27
theorem fl52_4 : flP Tryz.prog 52 4 = some (43, 1) := @flW _ _ _ _ _ _ fo52_4 ts3
def bl62 := @blW _ _ _ tz62 tv62
theorem fl62_0 : flP Tryz.prog 62 0 = some (0, 1) := @flW _ _ _ _ _ _ fo62_0 ts3
theorem fl62_1 : flP Tryz.prog 62 1 = some (1, 1) := @flW _ _ _ _ _ _ fo62_1 ts22
theorem fl62_2 : flP Tryz.prog 62 2 = some (2, 1) := @flW _ _ _ _ _ _ fo62_2 ts4
theorem fl62_3 : flP Tryz.prog 62 3 = some (3, 5) := @flW _ _ _ _ _ _ fo62_3 ts27
theorem tz67 : tzero Tryz.prog 67 = some [.v (.int .i64 0), .v (.int .i64 0), .v (.slice none 0 0), .v (.bool false), .v (.bool false), .v (.bool false), .v (.bool false), .v (.bool false), .v (.slice none 0 0), .v (.bool false), .v (.int .u32 0), .v (.int .u32 0), .v (.int .u32 0), .v (.bool false), .v (.bool false), .v (.bool false), .v (.int .i64 0), .v (.int .i64 0), .v (.bool false), .v (.bool false), .v (.int .i64 0), .v (.slice none 0 0), .v (.slice none 0 0), .v (.slice none 0 0), .v (.slice none 0 0), .v (.int .i64 0), .v (.bool false), .v (.bool false), .v (.int .i64 0), .v (.int .i64 0), .v (.int .i64 0), .v (.bool false), .v (.int .i64 0), .v (.slice none 0 0), .v (.slice none 0 0), .v (.slice none 0 0), .v (.slice none 0 0), .v (.slice none 0 0), .v (.int .i64 0)] := by kernel_rfl
def bl67 := @blW _ _ _ tz67 tv67
theorem fl67_0 : flP Tryz.prog 67 0 = some (0, 1) := @flW _ _ _ _ _ _ fo67_0 ts3
theorem fl67_1 : flP Tryz.prog 67 1 = some (1, 36) := @flW _ _ _ _ _ _ fo67_1 ts35
theorem fl67_2 : flP Tryz.prog 67 2 = some (37, 1) := @flW _ _ _ _ _ _ fo67_2 ts53
theorem fl67_3 : flP Tryz.prog 67 3 = some (38, 1) := @flW _ _ _ _ _ _ fo67_3 ts3
def al3 := @alW _ _ _ tz3
def aq3 := @aqW _ _ _ tz3
def al22 := @alW _ _ _ tz22
def aq22 := @aqW _ _ _ tz22
def al27 := @alW _ _ _ tz27
def aq27 := @aqW _ _ _ tz27
def al35 := @alW _ _ _ tz35
def aq35 := @aqW _ _ _ tz35
def al62 := @alW _ _ _ tz62
def aq62 := @aqW _ _ _ tz62
def al67 := @alW _ _ _ tz67
def aq67 := @aqW _ _ _ tz67
theorem ab4 : ∀ {op : BinOp} {a b : Bool}, abin Tryz.prog op 4 (.v (.bool a)) (.v (.bool b)) = abinB op a b := abin_bool tv4
theorem sc22 : sliceCells Tryz.prog 4 22 = [2] := by kernel_rfl
theorem ty22 : typed Tryz.prog 22 (.v (.slice none 0 0)) = .fresh 1 0 [] := ty_nil sc22
theorem sc23 : sliceCells Tryz.prog 4 23 = [2] := by kernel_rfl
theorem ty23 : typed Tryz.prog 23 (.v (.slice none 0 0)) = .fresh 1 0 [] := ty_nil sc23
theorem sc24 : sliceCells Tryz.prog 4 24 = [2] := by kernel_rfl
theorem ty24 : typed Tryz.prog 24 (.v (.slice none 0 0)) = .fresh 1 0 [] := ty_nil sc24
theorem sc25 : sliceCells Tryz.prog 4 25 = [2] := by kernel_rfl
theorem ty25 : typed Tryz.prog 25 (.v (.slice none 0 0)) = .fresh 1 0 [] := ty_nil sc25
theorem sc27 : sliceCells Tryz.prog 4 27 = [0, 2, 2, 2, 2] := by kernel_rfl
theorem ty27 : ∀ {xs : List AV}, typed Tryz.prog 27 (.agg xs) = .agg (nilNew xs [0, 2, 2, 2, 2]) := ty_agg sc27
theorem sc29 : sliceCells Tryz.prog 4 29 = [6] := by kernel_rfl
theorem ty29 : typed Tryz.prog 29 (.v (.slice none 0 0)) = .fresh 5 0 [] := ty_nil sc29
theorem sc53 : sliceCells Tryz.prog 4 53 = [9] := by kernel_rfl
theorem ty53 : typed Tryz.prog 53 (.v (.slice none 0 0)) = .fresh 8 0 [] := ty_nil sc53
theorem sc62 : sliceCells Tryz.prog 4 62 = [0, 2, 0, 0, 2, 2, 2, 2] := by kernel_rfl
theorem ty62 : ∀ {xs : List AV}, typed Tryz.prog 62 (.agg xs) = .agg (nilNew xs [0, 2, 0, 0, 2, 2, 2, 2]) := ty_agg sc62
theorem sc69 : sliceCells Tryz.prog 4 69 = [2] := by kernel_rfl
theorem ty69 : typed Tryz.prog 69 (.v (.slice none 0 0)) = .fresh 1 0 [] := ty_nil sc69
theorem c_T_Tensor_at {x : T_Tensor} : c_T_Tensor x = [.v (.int .i64 x.fType), .arr x.fDims.length (lm (ik .i64) x.fDims), .arr x.fF.length (lm (ik .u32) x.fF), .arr x.fI.length (lm (ik .i64) x.fI), .arr x.fB.length (lm (bk) x.fB)] := rfl
theorem c_T_Setting_at {x : T_Setting} : c_T_Setting x = [.v (.int .i64 x.fAxis), .arr x.fAxes.length (lm (ik .i64) x.fAxes), .v (.bool x.fHasAxes), .v (.bool x.fKeep), .v (.bool x.fNoop), .v (.bool x.fLast), .v (.bool x.fZero), .arr x.fPerm.length (lm (ik .i64) x.fPerm), .v (.bool x.fHasPerm), .v (.int .u32 x.fAlpha), .v (.int .u32 x.fBeta), .v (.int .u32 x.fEpsilon), .v (.bool x.fLow), .v (.bool x.fHigh), .v (.bool x.fFmod), .v (.int .i64 x.fTo), .v (.int .i64 x.fMode), .v (.bool x.fTransA), .v (.bool x.fTransB), .v (.int .i64 x.fGroup), .arr x.fKernel.length (lm (ik .i64) x.fKernel), .arr x.fStrides.length (lm (ik .i64) x.fStrides), .arr x.fPads.length (lm (ik .i64) x.fPads), .arr x.fDilations.length (lm (ik .i64) x.fDilations), .v (.int .i64 x.fAuto), .v (.bool x.fCeil), .v (.bool x.fCount), .v (.int .i64 x.fBlock), .v (.int .i64 x.fStart), .v (.int .i64 x.fEnd), .v (.bool x.fHasEnd), .v (.int .i64 x.fValue.fType), .arr x.fValue.fDims.length (lm (ik .i64) x.fValue.fDims), .arr x.fValue.fF.length (lm (ik .u32) x.fValue.fF), .arr x.fValue.fI.length (lm (ik .i64) x.fValue.fI), .arr x.fValue.fB.length (lm (bk) x.fValue.fB)] := rfl
theorem c_T_Val_at {x : T_Val} : c_T_Val x = [.v (.int .i64 x.fType), .arr x.fDims.length (lm (ik .i64) x.fDims), .v (.bool x.fConst), .v (.int .i64 x.fT.fType), .arr x.fT.fDims.length (lm (ik .i64) x.fT.fDims), .arr x.fT.fF.length (lm (ik .u32) x.fT.fF), .arr x.fT.fI.length (lm (ik .i64) x.fT.fI), .arr x.fT.fB.length (lm (bk) x.fT.fB)] := rfl
theorem c_T_infer_ask_at {x : T_infer_ask} : c_T_infer_ask x = [.v (.int .i64 x.fop), .v (.int .i64 x.fs.fAxis), .arr x.fs.fAxes.length (lm (ik .i64) x.fs.fAxes), .v (.bool x.fs.fHasAxes), .v (.bool x.fs.fKeep), .v (.bool x.fs.fNoop), .v (.bool x.fs.fLast), .v (.bool x.fs.fZero), .arr x.fs.fPerm.length (lm (ik .i64) x.fs.fPerm), .v (.bool x.fs.fHasPerm), .v (.int .u32 x.fs.fAlpha), .v (.int .u32 x.fs.fBeta), .v (.int .u32 x.fs.fEpsilon), .v (.bool x.fs.fLow), .v (.bool x.fs.fHigh), .v (.bool x.fs.fFmod), .v (.int .i64 x.fs.fTo), .v (.int .i64 x.fs.fMode), .v (.bool x.fs.fTransA), .v (.bool x.fs.fTransB), .v (.int .i64 x.fs.fGroup), .arr x.fs.fKernel.length (lm (ik .i64) x.fs.fKernel), .arr x.fs.fStrides.length (lm (ik .i64) x.fs.fStrides), .arr x.fs.fPads.length (lm (ik .i64) x.fs.fPads), .arr x.fs.fDilations.length (lm (ik .i64) x.fs.fDilations), .v (.int .i64 x.fs.fAuto), .v (.bool x.fs.fCeil), .v (.bool x.fs.fCount), .v (.int .i64 x.fs.fBlock), .v (.int .i64 x.fs.fStart), .v (.int .i64 x.fs.fEnd), .v (.bool x.fs.fHasEnd), .v (.int .i64 x.fs.fValue.fType), .arr x.fs.fValue.fDims.length (lm (ik .i64) x.fs.fValue.fDims), .arr x.fs.fValue.fF.length (lm (ik .u32) x.fs.fValue.fF), .arr x.fs.fValue.fI.length (lm (ik .i64) x.fs.fValue.fI), .arr x.fs.fValue.fB.length (lm (bk) x.fs.fValue.fB), .arr x.fin.length (fm c_T_Val x.fin), .v (.int .i64 x.fouts)] := rfl
theorem c_T_moves_move_at {x : T_moves_move} : c_T_moves_move x = [.v (.int .i64 x.fop), .v (.int .i64 x.fs.fAxis), .arr x.fs.fAxes.length (lm (ik .i64) x.fs.fAxes), .v (.bool x.fs.fHasAxes), .v (.bool x.fs.fKeep), .v (.bool x.fs.fNoop), .v (.bool x.fs.fLast), .v (.bool x.fs.fZero), .arr x.fs.fPerm.length (lm (ik .i64) x.fs.fPerm), .v (.bool x.fs.fHasPerm), .v (.int .u32 x.fs.fAlpha), .v (.int .u32 x.fs.fBeta), .v (.int .u32 x.fs.fEpsilon), .v (.bool x.fs.fLow), .v (.bool x.fs.fHigh), .v (.bool x.fs.fFmod), .v (.int .i64 x.fs.fTo), .v (.int .i64 x.fs.fMode), .v (.bool x.fs.fTransA), .v (.bool x.fs.fTransB), .v (.int .i64 x.fs.fGroup), .arr x.fs.fKernel.length (lm (ik .i64) x.fs.fKernel), .arr x.fs.fStrides.length (lm (ik .i64) x.fs.fStrides), .arr x.fs.fPads.length (lm (ik .i64) x.fs.fPads), .arr x.fs.fDilations.length (lm (ik .i64) x.fs.fDilations), .v (.int .i64 x.fs.fAuto), .v (.bool x.fs.fCeil), .v (.bool x.fs.fCount), .v (.int .i64 x.fs.fBlock), .v (.int .i64 x.fs.fStart), .v (.int .i64 x.fs.fEnd), .v (.bool x.fs.fHasEnd), .v (.int .i64 x.fs.fValue.fType), .arr x.fs.fValue.fDims.length (lm (ik .i64) x.fs.fValue.fDims), .arr x.fs.fValue.fF.length (lm (ik .u32) x.fs.fValue.fF), .arr x.fs.fValue.fI.length (lm (ik .i64) x.fs.fValue.fI), .arr x.fs.fValue.fB.length (lm (bk) x.fs.fValue.fB), .arr x.fin.length (fm c_T_Tensor x.fin), .v (.int .i64 x.fx.fType), .arr x.fx.fDims.length (lm (ik .i64) x.fx.fDims), .arr x.fx.fF.length (lm (ik .u32) x.fx.fF), .arr x.fx.fI.length (lm (ik .i64) x.fx.fI), .arr x.fx.fB.length (lm (bk) x.fx.fB), .v (.int .i64 x.faxis)] := rfl
theorem c_T_Tensor_inj : Inj c_T_Tensor := by
  intro a b h
  obtain ⟨a0, a1, a2, a3, a4⟩ := a
  obtain ⟨b0, b1, b2, b3, b4⟩ := b
  simp only [c_T_Tensor_at, INJ] at h
  simp_all
theorem c_T_Setting_inj : Inj c_T_Setting := by
  intro a b h
  obtain ⟨a0, a1, a2, a3, a4, a5, a6, a7, a8, a9, a10, a11, a12, a13, a14, a15, a16, a17, a18, a19, a20, a21, a22, a23, a24, a25, a26, a27, a28, a29, a30, ⟨a_310, a_311, a_312, a_313, a_314⟩⟩ := a
  obtain ⟨b0, b1, b2, b3, b4, b5, b6, b7, b8, b9, b10, b11, b12, b13, b14, b15, b16, b17, b18, b19, b20, b21, b22, b23, b24, b25, b26, b27, b28, b29, b30, ⟨b_310, b_311, b_312, b_313, b_314⟩⟩ := b
  simp only [c_T_Setting_at, INJ, @c_inj_iff _ _ c_T_Tensor_inj, @lm_inj_iff _ _ (inj_avf (inj_fm c_T_Tensor_len (by decide) c_T_Tensor_inj)), @fm_inj_iff _ _ (inj_fm c_T_Tensor_len (by decide) c_T_Tensor_inj)] at h
  simp_all
theorem c_T_Val_inj : Inj c_T_Val := by
  intro a b h
  obtain ⟨a0, a1, a2, ⟨a_30, a_31, a_32, a_33, a_34⟩⟩ := a
  obtain ⟨b0, b1, b2, ⟨b_30, b_31, b_32, b_33, b_34⟩⟩ := b
  simp only [c_T_Val_at, INJ, @c_inj_iff _ _ c_T_Tensor_inj, @lm_inj_iff _ _ (inj_avf (inj_fm c_T_Tensor_len (by decide) c_T_Tensor_inj)), @fm_inj_iff _ _ (inj_fm c_T_Tensor_len (by decide) c_T_Tensor_inj), @c_inj_iff _ _ c_T_Setting_inj, @lm_inj_iff _ _ (inj_avf (inj_fm c_T_Setting_len (by decide) c_T_Setting_inj)), @fm_inj_iff _ _ (inj_fm c_T_Setting_len (by decide) c_T_Setting_inj)] at h
  simp_all
theorem c_T_infer_ask_inj : Inj c_T_infer_ask := by
  intro a b h
  obtain ⟨a0, ⟨a_10, a_11, a_12, a_13, a_14, a_15, a_16, a_17, a_18, a_19, a_110, a_111, a_112, a_113, a_114, a_115, a_116, a_117, a_118, a_119, a_120, a_121, a_122, a_123, a_124, a_125, a_126, a_127, a_128, a_129, a_130, ⟨a_1_310, a_1_311, a_1_312, a_1_313, a_1_314⟩⟩, a2, a3⟩ := a
  obtain ⟨b0, ⟨b_10, b_11, b_12, b_13, b_14, b_15, b_16, b_17, b_18, b_19, b_110, b_111, b_112, b_113, b_114, b_115, b_116, b_117, b_118, b_119, b_120, b_121, b_122, b_123, b_124, b_125, b_126, b_127, b_128, b_129, b_130, ⟨b_1_310, b_1_311, b_1_312, b_1_313, b_1_314⟩⟩, b2, b3⟩ := b
  simp only [c_T_infer_ask_at, INJ, @c_inj_iff _ _ c_T_Tensor_inj, @lm_inj_iff _ _ (inj_avf (inj_fm c_T_Tensor_len (by decide) c_T_Tensor_inj)), @fm_inj_iff _ _ (inj_fm c_T_Tensor_len (by decide) c_T_Tensor_inj), @c_inj_iff _ _ c_T_Setting_inj, @lm_inj_iff _ _ (inj_avf (inj_fm c_T_Setting_len (by decide) c_T_Setting_inj)), @fm_inj_iff _ _ (inj_fm c_T_Setting_len (by decide) c_T_Setting_inj), @c_inj_iff _ _ c_T_Val_inj, @lm_inj_iff _ _ (inj_avf (inj_fm c_T_Val_len (by decide) c_T_Val_inj)), @fm_inj_iff _ _ (inj_fm c_T_Val_len (by decide) c_T_Val_inj)] at h
  simp_all
theorem c_T_moves_move_inj : Inj c_T_moves_move := by
  intro a b h
  obtain ⟨a0, ⟨a_10, a_11, a_12, a_13, a_14, a_15, a_16, a_17, a_18, a_19, a_110, a_111, a_112, a_113, a_114, a_115, a_116, a_117, a_118, a_119, a_120, a_121, a_122, a_123, a_124, a_125, a_126, a_127, a_128, a_129, a_130, ⟨a_1_310, a_1_311, a_1_312, a_1_313, a_1_314⟩⟩, a2, ⟨a_30, a_31, a_32, a_33, a_34⟩, a4⟩ := a
  obtain ⟨b0, ⟨b_10, b_11, b_12, b_13, b_14, b_15, b_16, b_17, b_18, b_19, b_110, b_111, b_112, b_113, b_114, b_115, b_116, b_117, b_118, b_119, b_120, b_121, b_122, b_123, b_124, b_125, b_126, b_127, b_128, b_129, b_130, ⟨b_1_310, b_1_311, b_1_312, b_1_313, b_1_314⟩⟩, b2, ⟨b_30, b_31, b_32, b_33, b_34⟩, b4⟩ := b
  simp only [c_T_moves_move_at, INJ, @c_inj_iff _ _ c_T_Tensor_inj, @lm_inj_iff _ _ (inj_avf (inj_fm c_T_Tensor_len (by decide) c_T_Tensor_inj)), @fm_inj_iff _ _ (inj_fm c_T_Tensor_len (by decide) c_T_Tensor_inj), @c_inj_iff _ _ c_T_Setting_inj, @lm_inj_iff _ _ (inj_avf (inj_fm c_T_Setting_len (by decide) c_T_Setting_inj)), @fm_inj_iff _ _ (inj_fm c_T_Setting_len (by decide) c_T_Setting_inj), @c_inj_iff _ _ c_T_Val_inj, @lm_inj_iff _ _ (inj_avf (inj_fm c_T_Val_len (by decide) c_T_Val_inj)), @fm_inj_iff _ _ (inj_fm c_T_Val_len (by decide) c_T_Val_inj), @c_inj_iff _ _ c_T_infer_ask_inj, @lm_inj_iff _ _ (inj_avf (inj_fm c_T_infer_ask_len (by decide) c_T_infer_ask_inj)), @fm_inj_iff _ _ (inj_fm c_T_infer_ask_len (by decide) c_T_infer_ask_inj)] at h
  simp_all
def TT0 := And.intro @ts2 <| And.intro @pt2 <| And.intro @st2 <| And.intro @ts3 <| And.intro @pt3 <| And.intro @st3 <| And.intro @ts4 <| And.intro @pt4 <| And.intro @sb4 <| And.intro @ts5 <| And.intro @pt5 <| And.intro @st5 <| And.intro @ts9 <| And.intro @pt9 <| And.intro @le9 <| And.intro @ix9 <| And.intro @ts22 <| And.intro @pt22 <| And.intro @ia22 <| And.intro @io22 <| And.intro @le22 <| And.intro @mk22 <| And.intro @ap22 <| And.intro @bs22 <| And.intro @sa22 <| And.intro @so22 <| And.intro @ts23 <| And.intro @pt23 <| And.intro @ia23 <| And.intro @io23 <| And.intro @le23 <| And.intro @mk23 <| And.intro @ap23 <| And.intro @bs23 <| And.intro @sa23 <| And.intro @so23 <| And.intro @ts24 <| And.intro @pt24 <| And.intro @ia24 <| @io24
def TT1 := And.intro @le24 <| And.intro @mk24 <| And.intro @ap24 <| And.intro @bs24 <| And.intro @sa24 <| And.intro @so24 <| And.intro @ts25 <| And.intro @pt25 <| And.intro @ia25 <| And.intro @io25 <| And.intro @le25 <| And.intro @mk25 <| And.intro @ap25 <| And.intro @bs25 <| And.intro @sa25 <| And.intro @so25 <| And.intro @ts27 <| And.intro @pt27 <| And.intro @sg27 <| And.intro @ts29 <| And.intro @pt29 <| And.intro @ia29 <| And.intro @io29 <| And.intro @le29 <| And.intro @ap29 <| And.intro @af29 <| And.intro @bs29 <| And.intro @sa29 <| And.intro @so29 <| And.intro @ts30 <| And.intro @pt30 <| And.intro @st30 <| And.intro @ts33 <| And.intro @pt33 <| And.intro @st33 <| And.intro @ts35 <| And.intro @pt35 <| And.intro @sg35 <| And.intro @ts50 <| @pt50
def TT2 := And.intro @ts52 <| And.intro @pt52 <| And.intro @ts53 <| And.intro @pt53 <| And.intro @ia53 <| And.intro @io53 <| And.intro @le53 <| And.intro @ap53 <| And.intro @af53 <| And.intro @bs53 <| And.intro @sa53 <| And.intro @so53 <| And.intro @ts62 <| And.intro @pt62 <| And.intro @sg62 <| And.intro @ts67 <| And.intro @pt67 <| And.intro @sg67 <| And.intro @ts69 <| And.intro @pt69 <| And.intro @ia69 <| And.intro @io69 <| And.intro @le69 <| And.intro @bs69 <| And.intro @sa69 <| And.intro @so69 <| And.intro @ts77 <| And.intro @pt77 <| And.intro @fo27_0 <| And.intro @fp27_0 <| And.intro @fr27_0 <| And.intro @fo27_1 <| And.intro @fp27_1 <| And.intro @fr27_1 <| And.intro @fo27_2 <| And.intro @fp27_2 <| And.intro @fr27_2 <| And.intro @fo27_3 <| And.intro @fp27_3 <| @fr27_3
def TT3 := And.intro @fo27_4 <| And.intro @fp27_4 <| And.intro @fr27_4 <| And.intro @fo35_0 <| And.intro @fp35_0 <| And.intro @fr35_0 <| And.intro @fo35_16 <| And.intro @fp35_16 <| And.intro @fr35_16 <| And.intro @fo35_27 <| And.intro @fp35_27 <| And.intro @fr35_27 <| And.intro @fo52_0 <| And.intro @fp52_0 <| And.intro @fr52_0 <| And.intro @fo52_1 <| And.intro @fp52_1 <| And.intro @fr52_1 <| And.intro @fo52_2 <| And.intro @fp52_2 <| And.intro @fr52_2 <| And.intro @fo52_3 <| And.intro @fp52_3 <| And.intro @fr52_3 <| And.intro @fo52_4 <| And.intro @fp52_4 <| And.intro @fr52_4 <| And.intro @fo62_0 <| And.intro @fp62_0 <| And.intro @fr62_0 <| And.intro @fd62_0 <| And.intro @fo62_1 <| And.intro @fp62_1 <| And.intro @fr62_1 <| And.intro @fd62_1 <| And.intro @fo62_2 <| And.intro @fp62_2 <| And.intro @fr62_2 <| And.intro @fo62_3 <| @fp62_3
def TT4 := And.intro @fr62_3 <| And.intro @fo67_0 <| And.intro @fp67_0 <| And.intro @fr67_0 <| And.intro @fo67_1 <| And.intro @fp67_1 <| And.intro @fr67_1 <| And.intro @fo67_2 <| And.intro @fp67_2 <| And.intro @fr67_2 <| And.intro @fo67_3 <| And.intro @fp67_3 <| And.intro @fr67_3 <| And.intro @bl27 <| And.intro @fl27_0 <| And.intro @fl27_1 <| And.intro @fl27_2 <| And.intro @fl27_3 <| And.intro @fl27_4 <| And.intro @bl35 <| And.intro @fl35_0 <| And.intro @fl35_16 <| And.intro @fl35_27 <| And.intro @bl52 <| And.intro @fl52_0 <| And.intro @fl52_1 <| And.intro @fl52_2 <| And.intro @fl52_3 <| And.intro @fl52_4 <| And.intro @bl62 <| And.intro @fl62_0 <| And.intro @fl62_1 <| And.intro @fl62_2 <| And.intro @fl62_3 <| And.intro @bl67 <| And.intro @fl67_0 <| And.intro @fl67_1 <| And.intro @fl67_2 <| And.intro @fl67_3 <| @al3
def TT5 := And.intro @aq3 <| And.intro @al22 <| And.intro @aq22 <| And.intro @al27 <| And.intro @aq27 <| And.intro @al35 <| And.intro @aq35 <| And.intro @al62 <| And.intro @aq62 <| And.intro @al67 <| And.intro @aq67 <| And.intro @ab4 <| And.intro @ty22 <| And.intro @ty23 <| And.intro @ty24 <| And.intro @ty25 <| And.intro @ty27 <| And.intro @ty29 <| And.intro @ty53 <| And.intro @ty62 <| And.intro @ty69 <| And.intro @c_T_Tensor_at <| And.intro (fun l => @one_fm _ c_T_Tensor l c_T_Tensor_one) <| And.intro @c_T_Setting_at <| And.intro (fun l => @one_fm _ c_T_Setting l c_T_Setting_one) <| And.intro @c_T_Val_at <| And.intro (fun l => @one_fm _ c_T_Val l c_T_Val_one) <| And.intro @c_T_infer_ask_at <| And.intro (fun l => @one_fm _ c_T_infer_ask l c_T_infer_ask_one) <| And.intro @c_T_moves_move_at <| (fun l => @one_fm _ c_T_moves_move l c_T_moves_move_one)
def TT := And.intro @TT0 <| And.intro @TT1 <| And.intro @TT2 <| And.intro @TT3 <| And.intro @TT4 <| @TT5
def OF := And.intro (fun l => @one_fm _ c_T_Tensor l c_T_Tensor_one) <| And.intro (fun l => @one_fm _ c_T_Setting l c_T_Setting_one) <| And.intro (fun l => @one_fm _ c_T_Val l c_T_Val_one) <| And.intro (fun l => @one_fm _ c_T_infer_ask l c_T_infer_ask_one) <| (fun l => @one_fm _ c_T_moves_move l c_T_moves_move_one)
def NT := And.intro @c_T_Tensor_at <| And.intro @c_T_Setting_at <| And.intro @c_T_Val_at <| And.intro @c_T_infer_ask_at <| @c_T_moves_move_at
def OZ := And.intro LN <| And.intro RO OF
theorem Zd {p : Prop} (h : p := by first | assumption | decide | with_unfolding_all rfl | omega | simp only [OZ] <;> omega | fail) : p := h
theorem Ze {p : Prop} (h : p := by first | rfl | (simp only [LN, NN, NT])) : p := h
theorem Zh {p : Prop} (h : p := by first | (simp (disch := first | exact Zd | fail) only [RR, simprocAttr, LN, NN, NT]; done) | (simp (disch := first | exact Zd | fail) only [RR, simprocAttr, LN, fm_app, NN, NT]; done) | rfl) : p := h
def FN := And.intro FF <| And.intro LN <| And.intro NN NT
def ZZ := And.intro RR <| And.intro RM <| And.intro LN <| And.intro TT RH
theorem Jc {β : Type} {m m' : Option AV} {s : Option β} {enc : β → AV} (j : J m' s enc) (h : m = m' := by conv => lhs; simp (disch := first | exact Zd | fail) only [ZZ, simprocAttr, *]) : J m s enc := J.eq h j
theorem Js {p : Prop} (h : p := by simp (maxSteps := 20000000) (disch := first | exact Zd | fail) only [ZZ, simprocAttr, FN, *]) : p := h
def IJ := And.intro (@c_inj_iff _ _ c_T_Tensor_inj) <| And.intro (@lm_inj_iff _ _ (inj_avf (inj_fm c_T_Tensor_len (by decide) c_T_Tensor_inj))) <| And.intro (@fm_inj_iff _ _ (inj_fm c_T_Tensor_len (by decide) c_T_Tensor_inj)) <| And.intro (@c_inj_iff _ _ c_T_Setting_inj) <| And.intro (@lm_inj_iff _ _ (inj_avf (inj_fm c_T_Setting_len (by decide) c_T_Setting_inj))) <| And.intro (@fm_inj_iff _ _ (inj_fm c_T_Setting_len (by decide) c_T_Setting_inj)) <| And.intro (@c_inj_iff _ _ c_T_Val_inj) <| And.intro (@lm_inj_iff _ _ (inj_avf (inj_fm c_T_Val_len (by decide) c_T_Val_inj))) <| And.intro (@fm_inj_iff _ _ (inj_fm c_T_Val_len (by decide) c_T_Val_inj)) <| And.intro (@c_inj_iff _ _ c_T_infer_ask_inj) <| And.intro (@lm_inj_iff _ _ (inj_avf (inj_fm c_T_infer_ask_len (by decide) c_T_infer_ask_inj))) <| And.intro (@fm_inj_iff _ _ (inj_fm c_T_infer_ask_len (by decide) c_T_infer_ask_inj)) <| And.intro (@c_inj_iff _ _ c_T_moves_move_inj) <| And.intro (@lm_inj_iff _ _ (inj_avf (inj_fm c_T_moves_move_len (by decide) c_T_moves_move_inj))) <| (@fm_inj_iff _ _ (inj_fm c_T_moves_move_len (by decide) c_T_moves_move_inj))
/-! 17: lattice/moves.Has -/
open Aw (d17)
def d17_at := by have h := tabL Aw.d17.eq_1; simp only [AllAt, Nat.zero_add, Nat.reduceAdd] at h; exact h
theorem i17 : finfo Tryz.prog 17 d17 = some ⟨bodyOf Tryz.f17, [.tmp 2], [4]⟩ := finfo_at Tryz.func17 rfl (by kernel_rfl) (by kernel_rfl)
def e17 : Bool → AV := fun r => .v (.bool r)
set_option maxHeartbeats 20000000 in
theorem w17 (cp : CallP) (fu : Nat) (x1 : Int) : J (go Tryz.prog noC cp noI 0 [] d17 fu (fin Tryz.prog [.tmp 2] [4]) (bodyOf Tryz.f17) (initE 0 [.v (.int .i64 x1)]) [] []) (moves_Has fu x1) e17 := by
 unfold moves_Has e17
 have da := d17_at
 refine J.spl (fun h1 => ?_) (fun h1 => ?_)
 ·conv => arg 1; simp (disch := first | exact Zd | fail) only [bodyOf, Tryz.f17, ZZ, d17_at, simprocAttr, h1]
  refine J.eq go_seq ?_
  refine Jc ?_
  refine J.eq ret_seq ?_
  refine J.some ?_
  exact Js
 ·refine J.chk fun h2 => ?_
  conv => arg 1; simp (disch := first | exact Zd | fail) only [bodyOf, Tryz.f17, ZZ, d17_at, simprocAttr, h2]
  refine J.eq go_seq ?_
  refine Jc ?_
  refine J.eq ret_seq ?_
  refine J.some ?_
  exact Js
noncomputable def t17 (fu : Nat) : CallP := noP
theorem t17_ok (fu : Nat) : CpOK Tryz.prog (t17 fu ) := noP_ok
theorem ok17 (fu : Nat) (x1 : Int) (r) (h : moves_Has fu x1 = some r) : PureOK Tryz.prog 17 [.v (.int .i64 x1)] (e17 r) :=
  pure_J mixed (cp := t17 fu ) (t17_ok fu  ) noI_ok i17 (w17 _ fu x1  ) h
/-! 57: lattice/tens.Width -/
open Aw (d57)
def d57_at := by have h := tabL Aw.d57.eq_1; simp only [AllAt, Nat.zero_add, Nat.reduceAdd] at h; exact h
theorem i57 : finfo Tryz.prog 57 d57 = some ⟨bodyOf Tryz.f57, [.tmp 2], [3]⟩ := finfo_at Tryz.func57 rfl (by kernel_rfl) (by kernel_rfl)
def e57 : Int → AV := fun r => .v (.int .i64 r)
set_option maxHeartbeats 20000000 in
theorem w57 (cp : CallP) (fu : Nat) (x1 : Int) : J (go Tryz.prog noC cp noI 0 [] d57 fu (fin Tryz.prog [.tmp 2] [3]) (bodyOf Tryz.f57) (initE 0 [.v (.int .i64 x1)]) [] []) (tens_Width fu x1) e57 := by
 unfold tens_Width e57
 have da := d57_at
 conv => arg 1; simp (disch := first | exact Zd | fail) only [bodyOf, Tryz.f57, ZZ, d57_at, simprocAttr]
 refine J.eq go_seq ?_
 refine Jc ?_
 refine J.ite (fun h1 => ?_) (fun h1 => ?_)
 ·have h1' := decide_eq_true h1
  refine J.some ?_
  exact Js
 ·have h1' := decide_eq_false h1
  refine Jc ?_
  refine J.ite (fun h2 => ?_) (fun h2 => ?_)
  ·have h2' := decide_eq_true h2
   refine J.some ?_
   exact Js
  ·have h2' := decide_eq_false h2
   refine Jc ?_
   refine J.ite (fun h3 => ?_) (fun h3 => ?_)
   ·have h3' := decide_eq_true h3
    refine J.some ?_
    exact Js
   ·have h3' := decide_eq_false h3
    refine Jc ?_
    refine J.eq ret_seq ?_
    refine J.some ?_
    exact Js
noncomputable def t57 (fu : Nat) : CallP := noP
theorem t57_ok (fu : Nat) : CpOK Tryz.prog (t57 fu ) := noP_ok
theorem ok57 (fu : Nat) (x1 : Int) (r) (h : tens_Width fu x1 = some r) : PureOK Tryz.prog 57 [.v (.int .i64 x1)] (e57 r) :=
  pure_J mixed (cp := t57 fu ) (t57_ok fu  ) noI_ok i57 (w57 _ fu x1  ) h
/-! 31: lattice/tens.known -/
open Aw (d31)
def d31_at := by have h := tabL Aw.d31.eq_1; simp only [AllAt, Nat.zero_add, Nat.reduceAdd] at h; exact h
theorem i31 : finfo Tryz.prog 31 d31 = some ⟨bodyOf Tryz.f31, [.tmp 2], [4]⟩ := finfo_at Tryz.func31 rfl (by kernel_rfl) (by kernel_rfl)
def e31 : Bool → AV := fun r => .v (.bool r)
set_option maxHeartbeats 20000000 in
theorem w31 (cp : CallP) (fu : Nat) (x1 : Int) (H57_0 : ∀ (a0 : Int) r, tens_Width fu a0 = some r → cp 57 [.v (.int .i64 a0)] = some (.v (.int .i64 r))) : J (go Tryz.prog noC cp noI 0 [] d31 fu (fin Tryz.prog [.tmp 2] [4]) (bodyOf Tryz.f31) (initE 0 [.v (.int .i64 x1)]) [] []) (tens_known fu x1) e31 := by
 unfold tens_known e31
 have da := d31_at
 refine J.bind fun x2 h1 => ?_
 have e_h1 := H57_0 _ _ h1
 try simp only [NN, NT, LN, simprocAttr, DT] at e_h1
 refine J.some ?_
 simp (maxSteps := 20000000) (disch := first | exact Zd | fail) only [bodyOf, Tryz.f31, ZZ, d31_at, simprocAttr, e_h1, FN]
noncomputable def t31 (fu : Nat) : CallP := orE 57 (mkC (fun (t : Int) => ([.v (.int .i64 t)] : List AV)) (fun t => tens_Width fu t) e57) (noP)
theorem t31_ok (fu : Nat) : CpOK Tryz.prog (t31 fu ) := orE_ok (noP_ok) (mkC_ok (fun t b h => ok57 fu t  b h))
theorem ok31 (fu : Nat) (x1 : Int) (r) (h : tens_known fu x1 = some r) : PureOK Tryz.prog 31 [.v (.int .i64 x1)] (e31 r) :=
  pure_J mixed (cp := t31 fu ) (t31_ok fu  ) noI_ok i31 (w31 _ fu x1  (fun a0 r h => orE_hit (mkC_at (a := a0) (by intro a b h; first | (exact rfl) | (simp only [INJ, IJ] at h; first | exact h | (simp_all [Prod.ext_iff]) )) h))) h
/-! 112: slices.IndexFunc[[]int,int] -/
open Aw (d112)
def d112_at := by have h := tabL Aw.d112.eq_1; simp only [AllAt, Nat.zero_add, Nat.reduceAdd] at h; exact h
theorem i112 : finfo Tryz.prog 112 d112 = some ⟨bodyOf Tryz.f112, [.tmp 4], [3]⟩ := finfo_at Tryz.func112 rfl (by kernel_rfl) (by kernel_rfl)
def e112 : Int → AV := fun r => .v (.int .i64 r)
set_option maxHeartbeats 20000000 in
theorem w112 (cp : CallP) (fu : Nat) (x1 : List Int) (p1 : Int → Option Bool) (fv_p1 : FuncId) (ca_p1 : List AV) (cap_p1 : Capt ca_p1) (hp_p1 : ∀ (y0 : Int) r, p1 y0 = some r → cp fv_p1 ((.v (.int .i64 y0)) :: ca_p1) = some (.v (.bool r))) : J (go Tryz.prog noC cp noI 0 [] d112 fu (fin Tryz.prog [.tmp 4] [3]) (bodyOf Tryz.f112) (initE 0 [.arr x1.length (lm (ik .i64) x1), .fn fv_p1 [] ca_p1]) [] []) (slices_IndexFunc_int fu x1 p1) e112 := by
 unfold slices_IndexFunc_int e112
 have da := d112_at
 have c4_p1 := fun g => (cap_p1.1 g).1; have c3_p1 := fun g => (cap_p1.1 g).2.1; have b4_p1 := fun g => (cap_p1.1 g).2.2.1; have b3_p1 := fun g => (cap_p1.1 g).2.2.2; have nm_p1 := cap_p1.2
 conv => arg 1; simp (disch := first | exact Zd | fail) only [bodyOf, Tryz.f112, ZZ, d112_at, simprocAttr, c4_p1, c3_p1, b4_p1, b3_p1, nm_p1]
 refine J.eq go_seq ?_
 conv => arg 1; simp (disch := first | exact Zd | fail) only [ZZ, d112_at, simprocAttr, c4_p1, c3_p1, b4_p1, b3_p1, nm_p1]
 unfold slices_IndexFunc_int.W1
 refine J.loop (fun (s : Int) => ([(0, .arr x1.length (lm (ik .i64) x1)), (1, .fn fv_p1 [] ca_p1), (7, .v (.int .i64 (x1.length : Int))), (8, .v (.int .i64 s))], [])) (fun next s => slices_IndexFunc_int.L1 fu p1 x1 next s) (s0 := 0) ?_ ?_ ?_
 ·exact Ze
 ·exact Zh
 rintro nx1 k1 hn1 x4
 show J _ (slices_IndexFunc_int.L1 fu p1 x1 nx1 x4) _
 unfold slices_IndexFunc_int.L1
 conv => arg 1; simp (disch := first | exact Zd | fail) only [ZZ, d112_at, simprocAttr, c4_p1, c3_p1, b4_p1, b3_p1, nm_p1]
 refine J.eq go_seq ?_
 conv => arg 1; simp (disch := first | exact Zd | fail) only [ZZ, d112_at, simprocAttr, c4_p1, c3_p1, b4_p1, b3_p1, nm_p1]
 refine J.ite (fun h1 => ?_) (fun h1 => ?_)
 ·have h1' := decide_eq_true h1
  have h1'' : decide ((x1.length : Int) ≤ x4) = false := decide_eq_false (by omega)
  conv => arg 1; simp (disch := first | exact Zd | fail) only [ZZ, d112_at, simprocAttr, c4_p1, c3_p1, b4_p1, b3_p1, nm_p1, h1'', h1']
  refine J.eq ret_seq ?_
  refine J.eq go_seq ?_
  refine J.at fun x7 h2 h3 h4 => ?_
  refine J.bind fun x8 h5 => ?_
  have e_h5 := hp_p1 _ _ h5
  try simp only [NN, NT, LN, simprocAttr, DT] at e_h5
  conv => arg 1; simp (disch := first | exact Zd | fail) only [ZZ, d112_at, simprocAttr, c4_p1, c3_p1, b4_p1, b3_p1, nm_p1, h1'', h1', lm_ik h4, e_h5]
  refine J.ite (fun h6 => ?_) (fun h6 => ?_)
  ·have h6' : x8 = true := h6
   refine J.some ?_
   simp (maxSteps := 20000000) (disch := first | exact Zd | fail) only [ZZ, d112_at, simprocAttr, c4_p1, c3_p1, b4_p1, b3_p1, nm_p1, h1'', h1', lm_ik h4, e_h5, h6', FN]
  ·have h6' : x8 = false := Bool.eq_false_iff.2 h6
   conv => arg 1; simp (disch := first | exact Zd | fail) only [ZZ, d112_at, simprocAttr, c4_p1, c3_p1, b4_p1, b3_p1, nm_p1, h1'', h1', lm_ik h4, e_h5, h6']
   refine J.eq ret_seq ?_
   conv => arg 1; simp (disch := first | exact Zd | fail) only [ZZ, d112_at, simprocAttr, c4_p1, c3_p1, b4_p1, b3_p1, nm_p1, h1'', h1', lm_ik h4, e_h5, h6']
   refine J.next (s := wk .i64 (x4 + 1)) hn1 ?_ ?_
   ·exact Ze
   ·exact Zh
 ·have h1' := decide_eq_false h1
  have h1'' : decide ((x1.length : Int) ≤ x4) = true := decide_eq_true (by omega)
  conv => arg 1; simp (disch := first | exact Zd | fail) only [ZZ, d112_at, simprocAttr, c4_p1, c3_p1, b4_p1, b3_p1, nm_p1, h1'', h1']
  refine J.eq ret_seq ?_
  refine J.some ?_
  simp (maxSteps := 20000000) (disch := first | exact Zd | fail) only [ZZ, d112_at, simprocAttr, c4_p1, c3_p1, b4_p1, b3_p1, nm_p1, h1'', h1', FN]
noncomputable def t112 (fu : Nat) (x1 : List Int) (p1 : Int → Option Bool) (fv_p1 : FuncId) (ca_p1 : List AV) : CallP := orE fv_p1 (mkC (fun (t : Int) => ((.v (.int .i64 t)) :: ca_p1 : List AV)) (fun t => p1 t) (fun r => .v (.bool r))) (noP)
theorem t112_ok (fu : Nat) (x1 : List Int) (p1 : Int → Option Bool) (fv_p1 : FuncId) (ca_p1 : List AV) (cap_p1 : Capt ca_p1) (hp_p1 : ∀ (y0 : Int) r, p1 y0 = some r → PureOK Tryz.prog fv_p1 ((.v (.int .i64 y0)) :: ca_p1) (.v (.bool r))) : CpOK Tryz.prog (t112 fu x1 p1 fv_p1 ca_p1) := orE_ok (noP_ok) (mkC_ok (fun t b h => hp_p1 t b h))
theorem ok112 (fu : Nat) (x1 : List Int) (p1 : Int → Option Bool) (fv_p1 : FuncId) (ca_p1 : List AV) (cap_p1 : Capt ca_p1) (hp_p1 : ∀ (y0 : Int) r, p1 y0 = some r → PureOK Tryz.prog fv_p1 ((.v (.int .i64 y0)) :: ca_p1) (.v (.bool r))) (r) (h : slices_IndexFunc_int fu x1 p1 = some r) : PureOK Tryz.prog 112 [.arr x1.length (lm (ik .i64) x1), .fn fv_p1 [] ca_p1] (e112 r) :=
  pure_J mixed (cp := t112 fu x1 p1 fv_p1 ca_p1) (t112_ok fu x1 p1 fv_p1 ca_p1 cap_p1 hp_p1) noI_ok i112 (w112 _ fu x1 p1 fv_p1 ca_p1 cap_p1 (fun y0 r h => orE_hit (mkC_at (a := y0) (by intro a b h; first | (exact rfl) | (simp only [INJ, IJ] at h; first | exact h | (simp_all [Prod.ext_iff]) )) h)) ) h
/-! 58: slices.ContainsFunc[[]int,int] -/
open Aw (d58)
def d58_at := by have h := tabL Aw.d58.eq_1; simp only [AllAt, Nat.zero_add, Nat.reduceAdd] at h; exact h
theorem i58 : finfo Tryz.prog 58 d58 = some ⟨bodyOf Tryz.f58, [.tmp 4], [4]⟩ := finfo_at Tryz.func58 rfl (by kernel_rfl) (by kernel_rfl)
def e58 : Bool → AV := fun r => .v (.bool r)
set_option maxHeartbeats 20000000 in
theorem w58 (cp : CallP) (fu : Nat) (x1 : List Int) (p1 : Int → Option Bool) (fv_p1 : FuncId) (ca_p1 : List AV) (cap_p1 : Capt ca_p1) (hp_p1 : ∀ (y0 : Int) r, p1 y0 = some r → cp fv_p1 ((.v (.int .i64 y0)) :: ca_p1) = some (.v (.bool r))) (H112_0 : ∀ (a0 : List Int) r, slices_IndexFunc_int fu a0 p1 = some r → cp 112 [.arr a0.length (lm (ik .i64) a0), .fn fv_p1 [] ca_p1] = some (.v (.int .i64 r))) : J (go Tryz.prog noC cp noI 0 [] d58 fu (fin Tryz.prog [.tmp 4] [4]) (bodyOf Tryz.f58) (initE 0 [.arr x1.length (lm (ik .i64) x1), .fn fv_p1 [] ca_p1]) [] []) (slices_ContainsFunc_int fu x1 p1) e58 := by
 unfold slices_ContainsFunc_int e58
 have da := d58_at
 have c4_p1 := fun g => (cap_p1.1 g).1; have c3_p1 := fun g => (cap_p1.1 g).2.1; have b4_p1 := fun g => (cap_p1.1 g).2.2.1; have b3_p1 := fun g => (cap_p1.1 g).2.2.2; have nm_p1 := cap_p1.2
 refine J.bind fun x2 h1 => ?_
 have e_h1 := H112_0 _ _ h1
 try simp only [NN, NT, LN, simprocAttr, DT] at e_h1
 refine J.some ?_
 simp (maxSteps := 20000000) (disch := first | exact Zd | fail) only [bodyOf, Tryz.f58, ZZ, d58_at, simprocAttr, c4_p1, c3_p1, b4_p1, b3_p1, nm_p1, e_h1, FN]
noncomputable def t58 (fu : Nat) (x1 : List Int) (p1 : Int → Option Bool) (fv_p1 : FuncId) (ca_p1 : List AV) : CallP := orE 112 (mkC (fun (t : List Int) => ([.arr t.length (lm (ik .i64) t), .fn fv_p1 [] ca_p1] : List AV)) (fun t => slices_IndexFunc_int fu t p1) e112) (orE fv_p1 (mkC (fun (t : Int) => ((.v (.int .i64 t)) :: ca_p1 : List AV)) (fun t => p1 t) (fun r => .v (.bool r))) (noP))
theorem t58_ok (fu : Nat) (x1 : List Int) (p1 : Int → Option Bool) (fv_p1 : FuncId) (ca_p1 : List AV) (cap_p1 : Capt ca_p1) (hp_p1 : ∀ (y0 : Int) r, p1 y0 = some r → PureOK Tryz.prog fv_p1 ((.v (.int .i64 y0)) :: ca_p1) (.v (.bool r))) : CpOK Tryz.prog (t58 fu x1 p1 fv_p1 ca_p1) := orE_ok (orE_ok (noP_ok) (mkC_ok (fun t b h => hp_p1 t b h))) (mkC_ok (fun t b h => ok112 fu t p1 fv_p1 ca_p1 cap_p1 hp_p1 b h))
theorem ok58 (fu : Nat) (x1 : List Int) (p1 : Int → Option Bool) (fv_p1 : FuncId) (ca_p1 : List AV) (cap_p1 : Capt ca_p1) (hp_p1 : ∀ (y0 : Int) r, p1 y0 = some r → PureOK Tryz.prog fv_p1 ((.v (.int .i64 y0)) :: ca_p1) (.v (.bool r))) (r) (h : slices_ContainsFunc_int fu x1 p1 = some r) : PureOK Tryz.prog 58 [.arr x1.length (lm (ik .i64) x1), .fn fv_p1 [] ca_p1] (e58 r) :=
  pure_J mixed (cp := t58 fu x1 p1 fv_p1 ca_p1) (t58_ok fu x1 p1 fv_p1 ca_p1 cap_p1 hp_p1) noI_ok i58 (w58 _ fu x1 p1 fv_p1 ca_p1 cap_p1 (fun y0 r h => orE_skip (fun hfv => mkC_none (by intro t h; simp at h)) (orE_hit (mkC_at (a := y0) (by intro a b h; first | (exact rfl) | (simp only [INJ, IJ] at h; first | exact h | (simp_all [Prod.ext_iff]) )) h))) (fun a0 r h => orE_hit (mkC_at (a := a0) (by intro a b h; first | (exact rfl) | (simp only [INJ, IJ] at h; first | exact h | (simp_all [Prod.ext_iff]) )) h))) h
/-! 59: lattice/shape.Size$1 -/
open Aw (d59)
def d59_at := by have h := tabL Aw.d59.eq_1; simp only [AllAt, Nat.zero_add, Nat.reduceAdd] at h; exact h
theorem i59 : finfo Tryz.prog 59 d59 = some ⟨bodyOf Tryz.f59, [.tmp 2], [4]⟩ := finfo_at Tryz.func59 rfl (by kernel_rfl) (by kernel_rfl)
def e59 : Bool → AV := fun r => .v (.bool r)
set_option maxHeartbeats 20000000 in
theorem w59 (cp : CallP) (fu : Nat) (x1 : Int) : J (go Tryz.prog noC cp noI 0 [] d59 fu (fin Tryz.prog [.tmp 2] [4]) (bodyOf Tryz.f59) (initE 0 [.v (.int .i64 x1)]) [] []) (shape_Size_1 fu x1) e59 := by
 unfold shape_Size_1 e59
 have da := d59_at
 refine J.some ?_
 simp (maxSteps := 20000000) (disch := first | exact Zd | fail) only [bodyOf, Tryz.f59, ZZ, d59_at, simprocAttr, FN]
noncomputable def t59 (fu : Nat) : CallP := noP
theorem t59_ok (fu : Nat) : CpOK Tryz.prog (t59 fu ) := noP_ok
theorem ok59 (fu : Nat) (x1 : Int) (r) (h : shape_Size_1 fu x1 = some r) : PureOK Tryz.prog 59 [.v (.int .i64 x1)] (e59 r) :=
  pure_J mixed (cp := t59 fu ) (t59_ok fu  ) noI_ok i59 (w59 _ fu x1  ) h
/-! 60: lattice/shape.Size$2 -/
open Aw (d60)
def d60_at := by have h := tabL Aw.d60.eq_1; simp only [AllAt, Nat.zero_add, Nat.reduceAdd] at h; exact h
theorem i60 : finfo Tryz.prog 60 d60 = some ⟨bodyOf Tryz.f60, [.tmp 2], [4]⟩ := finfo_at Tryz.func60 rfl (by kernel_rfl) (by kernel_rfl)
def e60 : Bool → AV := fun r => .v (.bool r)
set_option maxHeartbeats 20000000 in
theorem w60 (cp : CallP) (fu : Nat) (x1 : Int) : J (go Tryz.prog noC cp noI 0 [] d60 fu (fin Tryz.prog [.tmp 2] [4]) (bodyOf Tryz.f60) (initE 0 [.v (.int .i64 x1)]) [] []) (shape_Size_2 fu x1) e60 := by
 unfold shape_Size_2 e60
 have da := d60_at
 refine J.some ?_
 simp (maxSteps := 20000000) (disch := first | exact Zd | fail) only [bodyOf, Tryz.f60, ZZ, d60_at, simprocAttr, FN]
noncomputable def t60 (fu : Nat) : CallP := noP
theorem t60_ok (fu : Nat) : CpOK Tryz.prog (t60 fu ) := noP_ok
theorem ok60 (fu : Nat) (x1 : Int) (r) (h : shape_Size_2 fu x1 = some r) : PureOK Tryz.prog 60 [.v (.int .i64 x1)] (e60 r) :=
  pure_J mixed (cp := t60 fu ) (t60_ok fu  ) noI_ok i60 (w60 _ fu x1  ) h
/-! 113: slices.Index[[]int,int] -/
open Aw (d113)
def d113_at := by have h := tabL Aw.d113.eq_1; simp only [AllAt, Nat.zero_add, Nat.reduceAdd] at h; exact h
theorem i113 : finfo Tryz.prog 113 d113 = some ⟨bodyOf Tryz.f113, [.tmp 4], [3]⟩ := finfo_at Tryz.func113 rfl (by kernel_rfl) (by kernel_rfl)
def e113 : Int → AV := fun r => .v (.int .i64 r)
set_option maxHeartbeats 20000000 in
theorem w113 (cp : CallP) (fu : Nat) (x1 : List Int) (x2 : Int) : J (go Tryz.prog noC cp noI 0 [] d113 fu (fin Tryz.prog [.tmp 4] [3]) (bodyOf Tryz.f113) (initE 0 [.arr x1.length (lm (ik .i64) x1), .v (.int .i64 x2)]) [] []) (slices_Index_int fu x1 x2) e113 := by
 unfold slices_Index_int e113
 have da := d113_at
 conv => arg 1; simp (disch := first | exact Zd | fail) only [bodyOf, Tryz.f113, ZZ, d113_at, simprocAttr]
 refine J.eq go_seq ?_
 refine Jc ?_
 unfold slices_Index_int.W1
 refine J.loop (fun (s : Int) => ([(0, .arr x1.length (lm (ik .i64) x1)), (1, .v (.int .i64 x2)), (7, .v (.int .i64 (x1.length : Int))), (8, .v (.int .i64 s))], [])) (fun next s => slices_Index_int.L1 fu x1 x2 next s) (s0 := 0) ?_ ?_ ?_
 ·exact Ze
 ·exact Zh
 rintro nx1 k1 hn1 x4
 show J _ (slices_Index_int.L1 fu x1 x2 nx1 x4) _
 unfold slices_Index_int.L1
 refine Jc ?_
 refine J.eq go_seq ?_
 refine Jc ?_
 refine J.ite (fun h1 => ?_) (fun h1 => ?_)
 ·have h1' := decide_eq_true h1
  have h1'' : decide ((x1.length : Int) ≤ x4) = false := decide_eq_false (by omega)
  refine Jc ?_
  refine J.eq ret_seq ?_
  refine J.eq go_seq ?_
  refine J.at fun x6 h2 h3 h4 => ?_
  conv => arg 1; simp (disch := first | exact Zd | fail) only [ZZ, d113_at, simprocAttr, h1'', h1', lm_ik h4]
  refine J.ite (fun h5 => ?_) (fun h5 => ?_)
  ·have h5' := decide_eq_true h5
   refine J.some ?_
   simp (maxSteps := 20000000) (disch := first | exact Zd | fail) only [ZZ, d113_at, simprocAttr, h1'', h1', lm_ik h4, h5', FN]
  ·have h5' := decide_eq_false h5
   conv => arg 1; simp (disch := first | exact Zd | fail) only [ZZ, d113_at, simprocAttr, h1'', h1', lm_ik h4, h5']
   refine J.eq ret_seq ?_
   conv => arg 1; simp (disch := first | exact Zd | fail) only [ZZ, d113_at, simprocAttr, h1'', h1', lm_ik h4, h5']
   refine J.next (s := wk .i64 (x4 + 1)) hn1 ?_ ?_
   ·exact Ze
   ·exact Zh
 ·have h1' := decide_eq_false h1
  have h1'' : decide ((x1.length : Int) ≤ x4) = true := decide_eq_true (by omega)
  refine Jc ?_
  refine J.eq ret_seq ?_
  refine J.some ?_
  exact Js
noncomputable def t113 (fu : Nat) : CallP := noP
theorem t113_ok (fu : Nat) : CpOK Tryz.prog (t113 fu ) := noP_ok
theorem ok113 (fu : Nat) (x1 : List Int) (x2 : Int) (r) (h : slices_Index_int fu x1 x2 = some r) : PureOK Tryz.prog 113 [.arr x1.length (lm (ik .i64) x1), .v (.int .i64 x2)] (e113 r) :=
  pure_J mixed (cp := t113 fu ) (t113_ok fu  ) noI_ok i113 (w113 _ fu x1 x2  ) h
/-! 61: slices.Contains[[]int,int] -/
open Aw (d61)
def d61_at := by have h := tabL Aw.d61.eq_1; simp only [AllAt, Nat.zero_add, Nat.reduceAdd] at h; exact h
theorem i61 : finfo Tryz.prog 61 d61 = some ⟨bodyOf Tryz.f61, [.tmp 4], [4]⟩ := finfo_at Tryz.func61 rfl (by kernel_rfl) (by kernel_rfl)
def e61 : Bool → AV := fun r => .v (.bool r)
set_option maxHeartbeats 20000000 in
theorem w61 (cp : CallP) (fu : Nat) (x1 : List Int) (x2 : Int) (H113_0 : ∀ (a0 : List Int) (a1 : Int) r, slices_Index_int fu a0 a1 = some r → cp 113 [.arr a0.length (lm (ik .i64) a0), .v (.int .i64 a1)] = some (.v (.int .i64 r))) : J (go Tryz.prog noC cp noI 0 [] d61 fu (fin Tryz.prog [.tmp 4] [4]) (bodyOf Tryz.f61) (initE 0 [.arr x1.length (lm (ik .i64) x1), .v (.int .i64 x2)]) [] []) (slices_Contains_int fu x1 x2) e61 := by
 unfold slices_Contains_int e61
 have da := d61_at
 refine J.bind fun x3 h1 => ?_
 have e_h1 := H113_0 _ _ _ h1
 try simp only [NN, NT, LN, simprocAttr, DT] at e_h1
 refine J.some ?_
 simp (maxSteps := 20000000) (disch := first | exact Zd | fail) only [bodyOf, Tryz.f61, ZZ, d61_at, simprocAttr, e_h1, FN]
noncomputable def t61 (fu : Nat) : CallP := orE 113 (mkC (fun (t : (List Int) × Int) => ([.arr t.1.length (lm (ik .i64) t.1), .v (.int .i64 t.2)] : List AV)) (fun t => slices_Index_int fu t.1 t.2) e113) (noP)
theorem t61_ok (fu : Nat) : CpOK Tryz.prog (t61 fu ) := orE_ok (noP_ok) (mkC_ok (fun t b h => ok113 fu t.1 t.2  b h))
theorem ok61 (fu : Nat) (x1 : List Int) (x2 : Int) (r) (h : slices_Contains_int fu x1 x2 = some r) : PureOK Tryz.prog 61 [.arr x1.length (lm (ik .i64) x1), .v (.int .i64 x2)] (e61 r) :=
  pure_J mixed (cp := t61 fu ) (t61_ok fu  ) noI_ok i61 (w61 _ fu x1 x2  (fun a0 a1 r h => orE_hit (mkC_at (a := (a0, a1)) (by intro a b h; first | (exact rfl) | (simp only [INJ, IJ] at h; first | exact h | (simp_all [Prod.ext_iff]) )) h))) h
/-! 32: lattice/shape.Size -/
open Aw (d32)
def d32_at := by have h := tabL Aw.d32.eq_1; simp only [AllAt, Nat.zero_add, Nat.reduceAdd] at h; exact h
theorem i32 : finfo Tryz.prog 32 d32 = some ⟨bodyOf Tryz.f32, [.tmp 2, .tmp 3], [3, 30]⟩ := finfo_at Tryz.func32 rfl (by kernel_rfl) (by kernel_rfl)
def e32 : (Int × Int) → AV := fun r => .tuple [.v (.int .i64 r.1), .v (.int .i64 r.2)]
set_option maxHeartbeats 20000000 in
theorem w32 (cp : CallP) (fu : Nat) (x1 : List Int) (H58_0 : ∀ (a0 : List Int) r, slices_ContainsFunc_int fu a0 (fun y0 => shape_Size_1 fu y0) = some r → cp 58 [.arr a0.length (lm (ik .i64) a0), .fn 59 [] []] = some (.v (.bool r))) (H58_1 : ∀ (a0 : List Int) r, slices_ContainsFunc_int fu a0 (fun y0 => shape_Size_2 fu y0) = some r → cp 58 [.arr a0.length (lm (ik .i64) a0), .fn 60 [] []] = some (.v (.bool r))) (H61_0 : ∀ (a0 : List Int) (a1 : Int) r, slices_Contains_int fu a0 a1 = some r → cp 61 [.arr a0.length (lm (ik .i64) a0), .v (.int .i64 a1)] = some (.v (.bool r))) : J (go Tryz.prog noC cp noI 0 [] d32 fu (fin Tryz.prog [.tmp 2, .tmp 3] [3, 30]) (bodyOf Tryz.f32) (initE 0 [.arr x1.length (lm (ik .i64) x1)]) [] []) (shape_Size fu x1) e32 := by
 unfold shape_Size e32
 have da := d32_at
 conv => arg 1; simp (disch := first | exact Zd | fail) only [bodyOf, Tryz.f32, ZZ, d32_at, simprocAttr]
 refine J.eq go_seq ?_
 refine J.bind fun x2 h1 => ?_
 have e_h1 := H58_0 _ _ h1
 try simp only [NN, NT, LN, simprocAttr, DT] at e_h1
 refine Jc ?_
 refine J.ite (fun h2 => ?_) (fun h2 => ?_)
 ·have h2' : x2 = true := h2
  refine J.some ?_
  exact Js
 ·have h2' : x2 = false := Bool.eq_false_iff.2 h2
  refine Jc ?_
  refine J.eq ret_seq ?_
  refine J.joinS (fun (t : Unit) => ([(0, .arr x1.length (lm (ik .i64) x1))], [])) (fun t => shape_Size.k1 fu x1) ?_ (fun hj1 => ?_)
  ·rintro ⟨⟩
   show J _ (shape_Size.k1 fu x1) _
   unfold shape_Size.k1
   refine J.eq go_seq ?_
   refine J.bind fun x3 h3 => ?_
   have e_h3 := H61_0 _ _ _ h3
   try simp only [NN, NT, LN, simprocAttr, DT] at e_h3
   refine Jc ?_
   refine J.ite (fun h4 => ?_) (fun h4 => ?_)
   ·have h4' : x3 = true := h4
    refine J.some ?_
    exact Js
   ·have h4' : x3 = false := Bool.eq_false_iff.2 h4
    refine Jc ?_
    refine J.eq ret_seq ?_
    refine Jc ?_
    refine J.eq go_seq ?_
    refine Jc ?_
    unfold shape_Size.W1
    refine J.loop (fun (s : Int × Int) => ([(4, .v (.int .i64 s.1)), (18, .arr x1.length (lm (ik .i64) x1)), (19, .v (.int .i64 (x1.length : Int))), (20, .v (.int .i64 s.2))], [])) (fun next s => shape_Size.L1 fu x1 (fun x5 x6 => next (x5, x6)) s.1 s.2) (s0 := (1, 0)) ?_ ?_ ?_
    ·exact Ze
    ·exact Zh
    rintro next k1 hn1 ⟨x5, x6⟩
    let nx1 : Int → Int → Option (Int × Int) := (fun x5 x6 => next (x5, x6))
    show J _ (shape_Size.L1 fu x1 nx1 x5 x6) _
    unfold shape_Size.L1
    refine Jc ?_
    refine J.eq go_seq ?_
    refine Jc ?_
    refine J.ite (fun h5 => ?_) (fun h5 => ?_)
    ·have h5' := decide_eq_true h5
     have h5'' : decide ((x1.length : Int) ≤ x6) = false := decide_eq_false (by omega)
     refine Jc ?_
     refine J.eq ret_seq ?_
     refine J.eq go_seq ?_
     refine J.at fun x8 h6 h7 h8 => ?_
     conv => arg 1; simp (disch := first | exact Zd | fail) only [ZZ, d32_at, simprocAttr, e_h1, h2', e_h3, h4', h5'', h5', lm_ik h8]
     refine J.eq go_seq ?_
     refine J.chk fun h9 => ?_
     conv => arg 1; simp (disch := first | exact Zd | fail) only [ZZ, d32_at, simprocAttr, e_h1, h2', e_h3, h4', h5'', h5', lm_ik h8]
     refine J.ite (fun h10 => ?_) (fun h10 => ?_)
     ·have h10' := decide_eq_true h10
      have h10'' : decide (x8 ≤ (wk .i64 (Int.tdiv 4096 x5))) = false := decide_eq_false (by omega)
      refine J.some ?_
      simp (maxSteps := 20000000) (disch := first | exact Zd | fail) only [ZZ, d32_at, simprocAttr, e_h1, h2', e_h3, h4', h5'', h5', lm_ik h8, h10'', h10', FN]
     ·have h10' := decide_eq_false h10
      have h10'' : decide (x8 ≤ (wk .i64 (Int.tdiv 4096 x5))) = true := decide_eq_true (by omega)
      conv => arg 1; simp (disch := first | exact Zd | fail) only [ZZ, d32_at, simprocAttr, e_h1, h2', e_h3, h4', h5'', h5', lm_ik h8, h10'', h10']
      refine J.eq ret_seq ?_
      conv => arg 1; simp (disch := first | exact Zd | fail) only [ZZ, d32_at, simprocAttr, e_h1, h2', e_h3, h4', h5'', h5', lm_ik h8, h10'', h10']
      refine J.eq ret_seq ?_
      conv => arg 1; simp (disch := first | exact Zd | fail) only [ZZ, d32_at, simprocAttr, e_h1, h2', e_h3, h4', h5'', h5', lm_ik h8, h10'', h10']
      refine J.next (s := (wk .i64 (x5 * x8), wk .i64 (x6 + 1))) hn1 ?_ ?_
      ·exact Ze
      ·exact Zh
    ·have h5' := decide_eq_false h5
     have h5'' : decide ((x1.length : Int) ≤ x6) = true := decide_eq_true (by omega)
     refine Jc ?_
     refine J.eq ret_seq ?_
     refine J.some ?_
     exact Js
  ·refine J.hd jn_at ?_
   refine J.eq go_seq ?_
   refine Jc ?_
   refine J.ite (fun h11 => ?_) (fun h11 => ?_)
   ·have h11' := decide_eq_true h11
    have h11'' : decide ((x1.length : Int) ≤ 8) = false := decide_eq_false (by omega)
    refine Jc ?_
    refine J.eq ret_seq ?_
    refine J.some ?_
    exact Js
   ·have h11' := decide_eq_false h11
    have h11'' : decide ((x1.length : Int) ≤ 8) = true := decide_eq_true (by omega)
    refine J.bind fun x9 h12 => ?_
    have e_h12 := H58_1 _ _ h12
    try simp only [NN, NT, LN, simprocAttr, DT] at e_h12
    refine Jc ?_
    refine J.eq ret_seq ?_
    refine Jc ?_
    refine J.ite (fun h13 => ?_) (fun h13 => ?_)
    ·have h13' : x9 = true := h13
     refine J.some ?_
     exact Js
    ·have h13' : x9 = false := Bool.eq_false_iff.2 h13
     refine Jc ?_
     refine J.jmp (t := ()) hj1 ?_ ?_
     ·exact Ze
     ·exact Zh
noncomputable def t32 (fu : Nat) : CallP := orE 58 (mkC (fun (t : List Int) => ([.arr t.length (lm (ik .i64) t), .fn 59 [] []] : List AV)) (fun t => slices_ContainsFunc_int fu t (fun y0 => shape_Size_1 fu y0)) e58) (orE 58 (mkC (fun (t : List Int) => ([.arr t.length (lm (ik .i64) t), .fn 60 [] []] : List AV)) (fun t => slices_ContainsFunc_int fu t (fun y0 => shape_Size_2 fu y0)) e58) (orE 61 (mkC (fun (t : (List Int) × Int) => ([.arr t.1.length (lm (ik .i64) t.1), .v (.int .i64 t.2)] : List AV)) (fun t => slices_Contains_int fu t.1 t.2) e61) (noP)))
theorem t32_ok (fu : Nat) : CpOK Tryz.prog (t32 fu ) := orE_ok (orE_ok (orE_ok (noP_ok) (mkC_ok (fun t b h => ok61 fu t.1 t.2  b h))) (mkC_ok (fun t b h => ok58 fu t (fun y0 => shape_Size_2 fu y0) 60 [] Capt.nil (fun y0 r h => ok60 fu y0  r h) b h))) (mkC_ok (fun t b h => ok58 fu t (fun y0 => shape_Size_1 fu y0) 59 [] Capt.nil (fun y0 r h => ok59 fu y0  r h) b h))
theorem ok32 (fu : Nat) (x1 : List Int) (r) (h : shape_Size fu x1 = some r) : PureOK Tryz.prog 32 [.arr x1.length (lm (ik .i64) x1)] (e32 r) :=
  pure_J mixed (cp := t32 fu ) (t32_ok fu  ) noI_ok i32 (w32 _ fu x1  (fun a0 r h => orE_hit (mkC_at (a := a0) (by intro a b h; first | (exact rfl) | (simp only [INJ, IJ] at h; first | exact h | (simp_all [Prod.ext_iff]) )) h)) (fun a0 r h => orE_next (mkC_none (by intro t h; simp at h)) (orE_hit (mkC_at (a := a0) (by intro a b h; first | (exact rfl) | (simp only [INJ, IJ] at h; first | exact h | (simp_all [Prod.ext_iff]) )) h))) (fun a0 a1 r h => orE_miss (by decide) (orE_miss (by decide) (orE_hit (mkC_at (a := (a0, a1)) (by intro a b h; first | (exact rfl) | (simp only [INJ, IJ] at h; first | exact h | (simp_all [Prod.ext_iff]) )) h))))) h
/-! 18: lattice/tens.Check -/
open Aw (d18)
def d18_at := by have h := tabL Aw.d18.eq_1; simp only [AllAt, Nat.zero_add, Nat.reduceAdd] at h; exact h
theorem i18 : finfo Tryz.prog 18 d18 = some ⟨bodyOf Tryz.f18, [.tmp 2], [30]⟩ := finfo_at Tryz.func18 rfl (by kernel_rfl) (by kernel_rfl)
def e18 : Int → AV := fun r => .v (.int .i64 r)
set_option maxHeartbeats 20000000 in
theorem w18 (cp : CallP) (fu : Nat) (x1 : T_Tensor) (H31_0 : ∀ (a0 : Int) r, tens_known fu a0 = some r → cp 31 [.v (.int .i64 a0)] = some (.v (.bool r))) (H32_0 : ∀ (a0 : List Int) r, shape_Size fu a0 = some r → cp 32 [.arr a0.length (lm (ik .i64) a0)] = some (.tuple [.v (.int .i64 r.1), .v (.int .i64 r.2)])) : J (go Tryz.prog noC cp noI 0 [] d18 fu (fin Tryz.prog [.tmp 2] [30]) (bodyOf Tryz.f18) (initE 0 [.agg (c_T_Tensor x1)]) [] []) (tens_Check fu x1) e18 := by
 unfold tens_Check e18
 conv => arg 1; simp (disch := first | exact Zd | fail) only [bodyOf, Tryz.f18, ZZ, d18_at, simprocAttr]
 refine J.eq go_seq ?_
 refine J.bind fun x2 h1 => ?_
 have e_h1 := H31_0 _ _ h1
 try simp only [NN, NT, LN, simprocAttr, DT] at e_h1
 conv => arg 1; simp (disch := first | exact Zd | fail) only [ZZ, d18_at, simprocAttr, e_h1]
 refine J.ite (fun h2 => ?_) (fun h2 => ?_)
 ·have h2' : x2 = true := h2
  conv => arg 1; simp (disch := first | exact Zd | fail) only [ZZ, d18_at, simprocAttr, e_h1, h2']
  refine J.eq ret_seq ?_
  refine J.bind fun x3 h3 => ?_
  have e_h3 := H32_0 _ _ h3
  try simp only [NN, NT, LN, simprocAttr, DT] at e_h3
  conv => arg 1; simp (disch := first | exact Zd | fail) only [ZZ, d18_at, simprocAttr, e_h1, h2', e_h3]
  refine J.eq go_seq ?_
  conv => arg 1; simp (disch := first | exact Zd | fail) only [ZZ, d18_at, simprocAttr, e_h1, h2', e_h3]
  refine J.ite (fun h4 => ?_) (fun h4 => ?_)
  ·have h4' := decide_eq_true h4
   conv => arg 1; simp (disch := first | exact Zd | fail) only [ZZ, d18_at, simprocAttr, e_h1, h2', e_h3, h4']
   refine J.eq ret_seq ?_
   conv => arg 1; simp (disch := first | exact Zd | fail) only [ZZ, d18_at, simprocAttr, e_h1, h2', e_h3, h4']
   refine J.joinS (fun (t : Int) => ([(1, .ptr (0, 1, 0) 0 0), (3, .v (.int .i64 x3.1)), (5, .v (.int .i64 t))], [((0, 1, 0), .bx true ([.v (.int .i64 x1.fType), .arr x1.fDims.length (lm (ik .i64) x1.fDims), .arr x1.fF.length (lm (ik .u32) x1.fF), .arr x1.fI.length (lm (ik .i64) x1.fI), .arr x1.fB.length (lm (bk) x1.fB)]))])) (fun t => tens_Check.k1 fu x1 x3 t) ?_ (fun hj1 => ?_)
   ·rintro x4
    show J _ (tens_Check.k1 fu x1 x3 x4) _
    unfold tens_Check.k1
    refine J.eq go_seq ?_
    refine J.eq go_seq ?_
    conv => arg 1; simp (disch := first | exact Zd | fail) only [ZZ, d18_at, simprocAttr, e_h1, h2', e_h3, h4']
    refine J.ite (fun h5 => ?_) (fun h5 => ?_)
    ·have h5' := decide_eq_true h5
     conv => arg 1; simp (disch := first | exact Zd | fail) only [ZZ, d18_at, simprocAttr, e_h1, h2', e_h3, h4', h5']
     refine J.eq ret_seq ?_
     conv => arg 1; simp (disch := first | exact Zd | fail) only [ZZ, d18_at, simprocAttr, e_h1, h2', e_h3, h4', h5']
     refine J.ite (fun h6 => ?_) (fun h6 => ?_)
     ·have h6' := decide_eq_true h6
      conv => arg 1; simp (disch := first | exact Zd | fail) only [ZZ, d18_at, simprocAttr, e_h1, h2', e_h3, h4', h5', h6']
      refine J.eq ret_seq ?_
      refine J.some ?_
      simp (maxSteps := 20000000) (disch := first | exact Zd | fail) only [ZZ, d18_at, simprocAttr, e_h1, h2', e_h3, h4', h5', h6', FN]
     ·have h6' := decide_eq_false h6
      refine J.some ?_
      simp (maxSteps := 20000000) (disch := first | exact Zd | fail) only [ZZ, d18_at, simprocAttr, e_h1, h2', e_h3, h4', h5', h6', FN]
    ·have h5' := decide_eq_false h5
     conv => arg 1; simp (disch := first | exact Zd | fail) only [ZZ, d18_at, simprocAttr, e_h1, h2', e_h3, h4', h5']
     refine J.eq ret_seq ?_
     refine J.some ?_
     simp (maxSteps := 20000000) (disch := first | exact Zd | fail) only [ZZ, d18_at, simprocAttr, e_h1, h2', e_h3, h4', h5', FN]
   ·refine J.hd jn_at ?_
    conv => arg 1; simp (disch := first | exact Zd | fail) only [ZZ, d18_at, simprocAttr, e_h1, h2', e_h3, h4']
    refine J.ite (fun h7 => ?_) (fun h7 => ?_)
    ·have h7' := decide_eq_true h7
     conv => arg 1; simp (disch := first | exact Zd | fail) only [ZZ, d18_at, simprocAttr, e_h1, h2', e_h3, h4', h7']
     refine J.jmp (t := (x1.fI.length : Int)) hj1 ?_ ?_
     ·exact Ze
     ·exact Zh
    ·have h7' := decide_eq_false h7
     conv => arg 1; simp (disch := first | exact Zd | fail) only [ZZ, d18_at, simprocAttr, e_h1, h2', e_h3, h4', h7']
     refine J.ite (fun h8 => ?_) (fun h8 => ?_)
     ·have h8' := decide_eq_true h8
      conv => arg 1; simp (disch := first | exact Zd | fail) only [ZZ, d18_at, simprocAttr, e_h1, h2', e_h3, h4', h7', h8']
      refine J.jmp (t := (x1.fB.length : Int)) hj1 ?_ ?_
      ·exact Ze
      ·exact Zh
     ·have h8' := decide_eq_false h8
      conv => arg 1; simp (disch := first | exact Zd | fail) only [ZZ, d18_at, simprocAttr, e_h1, h2', e_h3, h4', h7', h8']
      refine J.jmp (t := (x1.fF.length : Int)) hj1 ?_ ?_
      ·exact Ze
      ·exact Zh
  ·have h4' := decide_eq_false h4
   refine J.some ?_
   simp (maxSteps := 20000000) (disch := first | exact Zd | fail) only [ZZ, d18_at, simprocAttr, e_h1, h2', e_h3, h4', FN]
 ·have h2' : x2 = false := Bool.eq_false_iff.2 h2
  refine J.some ?_
  simp (maxSteps := 20000000) (disch := first | exact Zd | fail) only [ZZ, d18_at, simprocAttr, e_h1, h2', FN]
noncomputable def t18 (fu : Nat) : CallP := orE 31 (mkC (fun (t : Int) => ([.v (.int .i64 t)] : List AV)) (fun t => tens_known fu t) e31) (orE 32 (mkC (fun (t : List Int) => ([.arr t.length (lm (ik .i64) t)] : List AV)) (fun t => shape_Size fu t) e32) (noP))
theorem t18_ok (fu : Nat) : CpOK Tryz.prog (t18 fu ) := orE_ok (orE_ok (noP_ok) (mkC_ok (fun t b h => ok32 fu t  b h))) (mkC_ok (fun t b h => ok31 fu t  b h))
theorem ok18 (fu : Nat) (x1 : T_Tensor) (r) (h : tens_Check fu x1 = some r) : PureOK Tryz.prog 18 [.agg (c_T_Tensor x1)] (e18 r) :=
  pure_J mixed (cp := t18 fu ) (t18_ok fu  ) noI_ok i18 (w18 _ fu x1  (fun a0 r h => orE_hit (mkC_at (a := a0) (by intro a b h; first | (exact rfl) | (simp only [INJ, IJ] at h; first | exact h | (simp_all [Prod.ext_iff]) )) h)) (fun a0 r h => orE_miss (by decide) (orE_hit (mkC_at (a := a0) (by intro a b h; first | (exact rfl) | (simp only [INJ, IJ] at h; first | exact h | (simp_all [Prod.ext_iff]) )) h)))) h
/-! 62: lattice/tens.own[int] -/
open Aw (d62)
def d62_at := by have h := tabL Aw.d62.eq_1; simp only [AllAt, Nat.zero_add, Nat.reduceAdd] at h; exact h
theorem i62 : finfo Tryz.prog 62 d62 = some ⟨bodyOf Tryz.f62, [.tmp 2], [22]⟩ := finfo_at Tryz.func62 rfl (by kernel_rfl) (by kernel_rfl)
def e62 : (List Int) → AV := fun r => .fresh 1 r.length (lm (ik .i64) r)
set_option maxHeartbeats 20000000 in
theorem w62 (cp : CallP) (fu : Nat) (x1 : List Int) : J (go Tryz.prog noC cp noI 0 [] d62 fu (fin Tryz.prog [.tmp 2] [22]) (bodyOf Tryz.f62) (initE 0 [.arr x1.length (lm (ik .i64) x1)]) [] []) (tens_own_int fu x1) e62 := by
 unfold tens_own_int e62
 have da := d62_at
 refine J.chk fun h1 => ?_
 refine J.some ?_
 simp (maxSteps := 20000000) (disch := first | exact Zd | fail) only [bodyOf, Tryz.f62, ZZ, d62_at, simprocAttr, FN]
noncomputable def t62 (fu : Nat) : CallP := noP
theorem t62_ok (fu : Nat) : CpOK Tryz.prog (t62 fu ) := noP_ok
theorem ok62 (fu : Nat) (x1 : List Int) (r) (h : tens_own_int fu x1 = some r) : PureOK Tryz.prog 62 [.arr x1.length (lm (ik .i64) x1)] (e62 r) :=
  pure_J mixed (cp := t62 fu ) (t62_ok fu  ) noI_ok i62 (w62 _ fu x1  ) h
/-! 63: lattice/tens.own[uint32] -/
open Aw (d63)
def d63_at := by have h := tabL Aw.d63.eq_1; simp only [AllAt, Nat.zero_add, Nat.reduceAdd] at h; exact h
theorem i63 : finfo Tryz.prog 63 d63 = some ⟨bodyOf Tryz.f63, [.tmp 2], [23]⟩ := finfo_at Tryz.func63 rfl (by kernel_rfl) (by kernel_rfl)
def e63 : (List Int) → AV := fun r => .fresh 1 r.length (lm (ik .u32) r)
set_option maxHeartbeats 20000000 in
theorem w63 (cp : CallP) (fu : Nat) (x1 : List Int) : J (go Tryz.prog noC cp noI 0 [] d63 fu (fin Tryz.prog [.tmp 2] [23]) (bodyOf Tryz.f63) (initE 0 [.arr x1.length (lm (ik .u32) x1)]) [] []) (tens_own_uint32 fu x1) e63 := by
 unfold tens_own_uint32 e63
 have da := d63_at
 refine J.chk fun h1 => ?_
 refine J.some ?_
 simp (maxSteps := 20000000) (disch := first | exact Zd | fail) only [bodyOf, Tryz.f63, ZZ, d63_at, simprocAttr, FN]
noncomputable def t63 (fu : Nat) : CallP := noP
theorem t63_ok (fu : Nat) : CpOK Tryz.prog (t63 fu ) := noP_ok
theorem ok63 (fu : Nat) (x1 : List Int) (r) (h : tens_own_uint32 fu x1 = some r) : PureOK Tryz.prog 63 [.arr x1.length (lm (ik .u32) x1)] (e63 r) :=
  pure_J mixed (cp := t63 fu ) (t63_ok fu  ) noI_ok i63 (w63 _ fu x1  ) h
/-! 64: lattice/tens.own[int64] -/
open Aw (d64)
def d64_at := by have h := tabL Aw.d64.eq_1; simp only [AllAt, Nat.zero_add, Nat.reduceAdd] at h; exact h
theorem i64 : finfo Tryz.prog 64 d64 = some ⟨bodyOf Tryz.f64, [.tmp 2], [24]⟩ := finfo_at Tryz.func64 rfl (by kernel_rfl) (by kernel_rfl)
def e64 : (List Int) → AV := fun r => .fresh 1 r.length (lm (ik .i64) r)
set_option maxHeartbeats 20000000 in
theorem w64 (cp : CallP) (fu : Nat) (x1 : List Int) : J (go Tryz.prog noC cp noI 0 [] d64 fu (fin Tryz.prog [.tmp 2] [24]) (bodyOf Tryz.f64) (initE 0 [.arr x1.length (lm (ik .i64) x1)]) [] []) (tens_own_int64 fu x1) e64 := by
 unfold tens_own_int64 e64
 have da := d64_at
 refine J.chk fun h1 => ?_
 refine J.some ?_
 simp (maxSteps := 20000000) (disch := first | exact Zd | fail) only [bodyOf, Tryz.f64, ZZ, d64_at, simprocAttr, FN]
noncomputable def t64 (fu : Nat) : CallP := noP
theorem t64_ok (fu : Nat) : CpOK Tryz.prog (t64 fu ) := noP_ok
theorem ok64 (fu : Nat) (x1 : List Int) (r) (h : tens_own_int64 fu x1 = some r) : PureOK Tryz.prog 64 [.arr x1.length (lm (ik .i64) x1)] (e64 r) :=
  pure_J mixed (cp := t64 fu ) (t64_ok fu  ) noI_ok i64 (w64 _ fu x1  ) h
/-! 65: lattice/tens.own[bool] -/
open Aw (d65)
def d65_at := by have h := tabL Aw.d65.eq_1; simp only [AllAt, Nat.zero_add, Nat.reduceAdd] at h; exact h
theorem i65 : finfo Tryz.prog 65 d65 = some ⟨bodyOf Tryz.f65, [.tmp 2], [25]⟩ := finfo_at Tryz.func65 rfl (by kernel_rfl) (by kernel_rfl)
def e65 : (List Bool) → AV := fun r => .fresh 1 r.length (lm (bk) r)
set_option maxHeartbeats 20000000 in
theorem w65 (cp : CallP) (fu : Nat) (x1 : List Bool) : J (go Tryz.prog noC cp noI 0 [] d65 fu (fin Tryz.prog [.tmp 2] [25]) (bodyOf Tryz.f65) (initE 0 [.arr x1.length (lm (bk) x1)]) [] []) (tens_own_bool fu x1) e65 := by
 unfold tens_own_bool e65
 have da := d65_at
 refine J.chk fun h1 => ?_
 refine J.some ?_
 simp (maxSteps := 20000000) (disch := first | exact Zd | fail) only [bodyOf, Tryz.f65, ZZ, d65_at, simprocAttr, FN]
noncomputable def t65 (fu : Nat) : CallP := noP
theorem t65_ok (fu : Nat) : CpOK Tryz.prog (t65 fu ) := noP_ok
theorem ok65 (fu : Nat) (x1 : List Bool) (r) (h : tens_own_bool fu x1 = some r) : PureOK Tryz.prog 65 [.arr x1.length (lm (bk) x1)] (e65 r) :=
  pure_J mixed (cp := t65 fu ) (t65_ok fu  ) noI_ok i65 (w65 _ fu x1  ) h
/-! 33: lattice/tens.Copy -/
open Aw (d33)
def d33_at := by have h := tabL Aw.d33.eq_1; simp only [AllAt, Nat.zero_add, Nat.reduceAdd] at h; exact h
theorem i33 : finfo Tryz.prog 33 d33 = some ⟨bodyOf Tryz.f33, [.cell 2 27], [27]⟩ := finfo_at Tryz.func33 rfl (by kernel_rfl) (by kernel_rfl)
def e33 : T_Tensor → AV := fun r => .agg [.v (.int .i64 r.fType), .fresh 1 r.fDims.length (lm (ik .i64) r.fDims), .fresh 1 r.fF.length (lm (ik .u32) r.fF), .fresh 1 r.fI.length (lm (ik .i64) r.fI), .fresh 1 r.fB.length (lm (bk) r.fB)]
set_option maxHeartbeats 20000000 in
theorem w33 (cp : CallP) (fu : Nat) (x1 : T_Tensor) (H62_0 : ∀ (a0 : List Int) r, tens_own_int fu a0 = some r → cp 62 [.arr a0.length (lm (ik .i64) a0)] = some (.fresh 1 r.length (lm (ik .i64) r))) (H63_0 : ∀ (a0 : List Int) r, tens_own_uint32 fu a0 = some r → cp 63 [.arr a0.length (lm (ik .u32) a0)] = some (.fresh 1 r.length (lm (ik .u32) r))) (H64_0 : ∀ (a0 : List Int) r, tens_own_int64 fu a0 = some r → cp 64 [.arr a0.length (lm (ik .i64) a0)] = some (.fresh 1 r.length (lm (ik .i64) r))) (H65_0 : ∀ (a0 : List Bool) r, tens_own_bool fu a0 = some r → cp 65 [.arr a0.length (lm (bk) a0)] = some (.fresh 1 r.length (lm (bk) r))) : J (go Tryz.prog noC cp noI 0 [] d33 fu (fin Tryz.prog [.cell 2 27] [27]) (bodyOf Tryz.f33) (initE 0 [.agg (c_T_Tensor x1)]) [] []) (tens_Copy fu x1) e33 := by
 unfold tens_Copy e33
 have da := d33_at
 refine J.bind fun x2 h1 => ?_
 have e_h1 := H62_0 _ _ h1
 try simp only [NN, NT, LN, simprocAttr, DT] at e_h1
 refine J.bind fun x3 h2 => ?_
 have e_h2 := H63_0 _ _ h2
 try simp only [NN, NT, LN, simprocAttr, DT] at e_h2
 refine J.bind fun x4 h3 => ?_
 have e_h3 := H64_0 _ _ h3
 try simp only [NN, NT, LN, simprocAttr, DT] at e_h3
 refine J.bind fun x5 h4 => ?_
 have e_h4 := H65_0 _ _ h4
 try simp only [NN, NT, LN, simprocAttr, DT] at e_h4
 refine J.some ?_
 simp (maxSteps := 20000000) (disch := first | exact Zd | fail) only [bodyOf, Tryz.f33, ZZ, d33_at, simprocAttr, e_h1, e_h2, e_h3, e_h4, FN]
noncomputable def t33 (fu : Nat) : CallP := orE 62 (mkC (fun (t : List Int) => ([.arr t.length (lm (ik .i64) t)] : List AV)) (fun t => tens_own_int fu t) e62) (orE 63 (mkC (fun (t : List Int) => ([.arr t.length (lm (ik .u32) t)] : List AV)) (fun t => tens_own_uint32 fu t) e63) (orE 64 (mkC (fun (t : List Int) => ([.arr t.length (lm (ik .i64) t)] : List AV)) (fun t => tens_own_int64 fu t) e64) (orE 65 (mkC (fun (t : List Bool) => ([.arr t.length (lm (bk) t)] : List AV)) (fun t => tens_own_bool fu t) e65) (noP))))
theorem t33_ok (fu : Nat) : CpOK Tryz.prog (t33 fu ) := orE_ok (orE_ok (orE_ok (orE_ok (noP_ok) (mkC_ok (fun t b h => ok65 fu t  b h))) (mkC_ok (fun t b h => ok64 fu t  b h))) (mkC_ok (fun t b h => ok63 fu t  b h))) (mkC_ok (fun t b h => ok62 fu t  b h))
theorem ok33 (fu : Nat) (x1 : T_Tensor) (r) (h : tens_Copy fu x1 = some r) : PureOK Tryz.prog 33 [.agg (c_T_Tensor x1)] (e33 r) :=
  pure_J mixed (cp := t33 fu ) (t33_ok fu  ) noI_ok i33 (w33 _ fu x1  (fun a0 r h => orE_hit (mkC_at (a := a0) (by intro a b h; first | (exact rfl) | (simp only [INJ, IJ] at h; first | exact h | (simp_all [Prod.ext_iff]) )) h)) (fun a0 r h => orE_miss (by decide) (orE_hit (mkC_at (a := a0) (by intro a b h; first | (exact rfl) | (simp only [INJ, IJ] at h; first | exact h | (simp_all [Prod.ext_iff]) )) h))) (fun a0 r h => orE_miss (by decide) (orE_miss (by decide) (orE_hit (mkC_at (a := a0) (by intro a b h; first | (exact rfl) | (simp only [INJ, IJ] at h; first | exact h | (simp_all [Prod.ext_iff]) )) h)))) (fun a0 r h => orE_miss (by decide) (orE_miss (by decide) (orE_miss (by decide) (orE_hit (mkC_at (a := a0) (by intro a b h; first | (exact rfl) | (simp only [INJ, IJ] at h; first | exact h | (simp_all [Prod.ext_iff]) )) h)))))) h
/-! 114: lattice/soft.Abs -/
def d114 : List (Nat × List Nat) := [(0, [2]), (0, []), (0, [0, 3, 4])]
def d114_at := by have h := tabL d114.eq_1; simp only [AllAt, Nat.zero_add, Nat.reduceAdd] at h; exact h
theorem i114 : finfo Tryz.prog 114 d114 = some ⟨bodyOf Tryz.f114, [.tmp 2], [33]⟩ := finfo_at Tryz.func114 rfl (by kernel_rfl) (by kernel_rfl)
def e114 : Int → AV := fun r => .v (.int .u32 r)
set_option maxHeartbeats 20000000 in
theorem w114 (cp : CallP) (fu : Nat) (x1 : Int) : J (go Tryz.prog noC cp noI 0 [] d114 fu (fin Tryz.prog [.tmp 2] [33]) (bodyOf Tryz.f114) (initE 0 [.v (.int .u32 x1)]) [] []) (soft_Abs fu x1) e114 := by
 unfold soft_Abs e114
 have da := d114_at
 refine J.some ?_
 simp (maxSteps := 20000000) (disch := first | exact Zd | fail) only [bodyOf, Tryz.f114, ZZ, d114_at, simprocAttr, FN]
noncomputable def t114 (fu : Nat) : CallP := noP
theorem t114_ok (fu : Nat) : CpOK Tryz.prog (t114 fu ) := noP_ok
theorem ok114 (fu : Nat) (x1 : Int) (r) (h : soft_Abs fu x1 = some r) : PureOK Tryz.prog 114 [.v (.int .u32 x1)] (e114 r) :=
  pure_J mixed (cp := t114 fu ) (t114_ok fu  ) noI_ok i114 (w114 _ fu x1  ) h
/-! 66: lattice/soft.NaN -/
def d66 : List (Nat × List Nat) := [(0, [2]), (0, []), (0, [0, 3, 4, 5])]
def d66_at := by have h := tabL d66.eq_1; simp only [AllAt, Nat.zero_add, Nat.reduceAdd] at h; exact h
theorem i66 : finfo Tryz.prog 66 d66 = some ⟨bodyOf Tryz.f66, [.tmp 2], [4]⟩ := finfo_at Tryz.func66 rfl (by kernel_rfl) (by kernel_rfl)
def e66 : Bool → AV := fun r => .v (.bool r)
set_option maxHeartbeats 20000000 in
theorem w66 (cp : CallP) (fu : Nat) (x1 : Int) (H114_0 : ∀ (a0 : Int) r, soft_Abs fu a0 = some r → cp 114 [.v (.int .u32 a0)] = some (.v (.int .u32 r))) : J (go Tryz.prog noC cp noI 0 [] d66 fu (fin Tryz.prog [.tmp 2] [4]) (bodyOf Tryz.f66) (initE 0 [.v (.int .u32 x1)]) [] []) (soft_NaN fu x1) e66 := by
 unfold soft_NaN e66
 have da := d66_at
 refine J.bind fun x2 h1 => ?_
 have e_h1 := H114_0 _ _ h1
 try simp only [NN, NT, LN, simprocAttr, DT] at e_h1
 refine J.some ?_
 simp (maxSteps := 20000000) (disch := first | exact Zd | fail) only [bodyOf, Tryz.f66, ZZ, d66_at, simprocAttr, e_h1, FN]
noncomputable def t66 (fu : Nat) : CallP := orE 114 (mkC (fun (t : Int) => ([.v (.int .u32 t)] : List AV)) (fun t => soft_Abs fu t) e114) (noP)
theorem t66_ok (fu : Nat) : CpOK Tryz.prog (t66 fu ) := orE_ok (noP_ok) (mkC_ok (fun t b h => ok114 fu t  b h))
theorem ok66 (fu : Nat) (x1 : Int) (r) (h : soft_NaN fu x1 = some r) : PureOK Tryz.prog 66 [.v (.int .u32 x1)] (e66 r) :=
  pure_J mixed (cp := t66 fu ) (t66_ok fu  ) noI_ok i66 (w66 _ fu x1  (fun a0 r h => orE_hit (mkC_at (a := a0) (by intro a b h; first | (exact rfl) | (simp only [INJ, IJ] at h; first | exact h | (simp_all [Prod.ext_iff]) )) h))) h
/-! 34: lattice/soft.Canon -/
def d34 : List (Nat × List Nat) := [(0, [2]), (0, []), (0, [3]), (0, []), (0, []), (0, []), (0, [0, 5])]
def d34_at := by have h := tabL d34.eq_1; simp only [AllAt, Nat.zero_add, Nat.reduceAdd] at h; exact h
theorem i34 : finfo Tryz.prog 34 d34 = some ⟨bodyOf Tryz.f34, [.tmp 2], [33]⟩ := finfo_at Tryz.func34 rfl (by kernel_rfl) (by kernel_rfl)
def e34 : Int → AV := fun r => .v (.int .u32 r)
set_option maxHeartbeats 20000000 in
theorem w34 (cp : CallP) (fu : Nat) (x1 : Int) (H66_0 : ∀ (a0 : Int) r, soft_NaN fu a0 = some r → cp 66 [.v (.int .u32 a0)] = some (.v (.bool r))) : J (go Tryz.prog noC cp noI 0 [] d34 fu (fin Tryz.prog [.tmp 2] [33]) (bodyOf Tryz.f34) (initE 0 [.v (.int .u32 x1)]) [] []) (soft_Canon fu x1) e34 := by
 unfold soft_Canon e34
 have da := d34_at
 conv => arg 1; simp (disch := first | exact Zd | fail) only [bodyOf, Tryz.f34, ZZ, d34_at, simprocAttr]
 refine J.eq go_seq ?_
 refine J.bind fun x2 h1 => ?_
 have e_h1 := H66_0 _ _ h1
 try simp only [NN, NT, LN, simprocAttr, DT] at e_h1
 refine Jc ?_
 refine J.ite (fun h2 => ?_) (fun h2 => ?_)
 ·have h2' : x2 = true := h2
  refine J.some ?_
  exact Js
 ·have h2' : x2 = false := Bool.eq_false_iff.2 h2
  refine Jc ?_
  refine J.eq ret_seq ?_
  refine J.some ?_
  exact Js
noncomputable def t34 (fu : Nat) : CallP := orE 66 (mkC (fun (t : Int) => ([.v (.int .u32 t)] : List AV)) (fun t => soft_NaN fu t) e66) (noP)
theorem t34_ok (fu : Nat) : CpOK Tryz.prog (t34 fu ) := orE_ok (noP_ok) (mkC_ok (fun t b h => ok66 fu t  b h))
theorem ok34 (fu : Nat) (x1 : Int) (r) (h : soft_Canon fu x1 = some r) : PureOK Tryz.prog 34 [.v (.int .u32 x1)] (e34 r) :=
  pure_J mixed (cp := t34 fu ) (t34_ok fu  ) noI_ok i34 (w34 _ fu x1  (fun a0 r h => orE_hit (mkC_at (a := a0) (by intro a b h; first | (exact rfl) | (simp only [INJ, IJ] at h; first | exact h | (simp_all [Prod.ext_iff]) )) h))) h
/-! 19: lattice/tens.Canon -/
open Aw (d19)
def d19_at := by have h := tabL Aw.d19.eq_1; simp only [AllAt, Nat.zero_add, Nat.reduceAdd] at h; exact h
theorem i19 : finfo Tryz.prog 19 d19 = some ⟨bodyOf Tryz.f19, [.cell 2 27], [27]⟩ := finfo_at Tryz.func19 rfl (by kernel_rfl) (by kernel_rfl)
def e19 : T_Tensor → AV := fun r => .agg [.v (.int .i64 r.fType), .fresh 1 r.fDims.length (lm (ik .i64) r.fDims), .fresh 1 r.fF.length (lm (ik .u32) r.fF), .fresh 1 r.fI.length (lm (ik .i64) r.fI), .fresh 1 r.fB.length (lm (bk) r.fB)]
set_option maxHeartbeats 20000000 in
theorem w19 (cp : CallP) (fu : Nat) (x1 : T_Tensor) (H33_0 : ∀ (a0 : T_Tensor) r, tens_Copy fu a0 = some r → cp 33 [.agg (c_T_Tensor a0)] = some (.agg [.v (.int .i64 r.fType), .fresh 1 r.fDims.length (lm (ik .i64) r.fDims), .fresh 1 r.fF.length (lm (ik .u32) r.fF), .fresh 1 r.fI.length (lm (ik .i64) r.fI), .fresh 1 r.fB.length (lm (bk) r.fB)])) (H34_0 : ∀ (a0 : Int) r, soft_Canon fu a0 = some r → cp 34 [.v (.int .u32 a0)] = some (.v (.int .u32 r))) : J (go Tryz.prog noC cp noI 0 [] d19 fu (fin Tryz.prog [.cell 2 27] [27]) (bodyOf Tryz.f19) (initE 0 [.agg (c_T_Tensor x1)]) [] []) (tens_Canon fu x1) e19 := by
 unfold tens_Canon e19
 have da := d19_at
 refine J.bind fun x2 h1 => ?_
 have e_h1 := H33_0 _ _ h1
 try simp only [NN, NT, LN, simprocAttr, DT] at e_h1
 conv => arg 1; simp (disch := first | exact Zd | fail) only [bodyOf, Tryz.f19, ZZ, d19_at, simprocAttr, e_h1]
 refine J.eq go_seq ?_
 refine Jc ?_
 unfold tens_Canon.W1
 refine J.loop (fun (s : (List Int) × Int) => ([(2, .ptr (0, 2, 0) 0 0), (3, .ptr (0, 3, 0) 0 0), (9, .own (0, 7, 1) 0 s.1.length s.1.length), (10, .v (.int .i64 ((x2.fF.length : Nat) : Int))), (11, .v (.int .i64 s.2))], [((0, 2, 0), .bx true ([.v (.int .i64 0), .v (.slice none 0 0), .v (.slice none 0 0), .v (.slice none 0 0), .v (.slice none 0 0)])), ((0, 7, 0), .sl true true 1 x2.fDims.length (lm (ik .i64) x2.fDims)), ((0, 7, 1), .sl true true 1 s.1.length (lm (ik .u32) s.1)), ((0, 7, 2), .sl true true 1 x2.fI.length (lm (ik .i64) x2.fI)), ((0, 7, 3), .sl true true 1 x2.fB.length (lm (bk) x2.fB)), ((0, 3, 0), .bx true ([.v (.int .i64 x2.fType), .own (0, 7, 0) 0 x2.fDims.length x2.fDims.length, .own (0, 7, 1) 0 s.1.length s.1.length, .own (0, 7, 2) 0 x2.fI.length x2.fI.length, .own (0, 7, 3) 0 x2.fB.length x2.fB.length]))])) (fun next s => tens_Canon.L1 fu x2 (fun x5 x6 => next (x5, x6)) s.1 s.2) (s0 := (x2.fF, 0)) ?_ ?_ ?_
 ·exact Ze
 ·exact Zh
 rintro next k1 hn1 ⟨x5, x6⟩
 let nx1 : (List Int) → Int → Option T_Tensor := (fun x5 x6 => next (x5, x6))
 show J _ (tens_Canon.L1 fu x2 nx1 x5 x6) _
 unfold tens_Canon.L1
 refine Jc ?_
 refine J.eq go_seq ?_
 refine Jc ?_
 refine J.ite (fun h2 => ?_) (fun h2 => ?_)
 ·have h2' := decide_eq_true h2
  have h2'' : decide (((x2.fF.length : Nat) : Int) ≤ x6) = false := decide_eq_false (by omega)
  refine Jc ?_
  refine J.eq ret_seq ?_
  refine J.eq go_seq ?_
  refine J.at fun x9 h3 h4 h5 => ?_
  refine J.bind fun x10 h6 => ?_
  have e_h6 := H34_0 _ _ h6
  try simp only [NN, NT, LN, simprocAttr, DT] at e_h6
  refine J.chk fun h7 => ?_
  conv => arg 1; simp (disch := first | exact Zd | fail) only [ZZ, d19_at, simprocAttr, e_h1, h2'', h2', lm_ik h5, e_h6]
  refine J.eq ret_seq ?_
  conv => arg 1; simp (disch := first | exact Zd | fail) only [ZZ, d19_at, simprocAttr, e_h1, h2'', h2', lm_ik h5, e_h6]
  refine J.next (s := (x5.set x6.toNat x10, wk .i64 (x6 + 1))) hn1 ?_ ?_
  ·exact Ze
  ·exact Zh
 ·have h2' := decide_eq_false h2
  have h2'' : decide (((x2.fF.length : Nat) : Int) ≤ x6) = true := decide_eq_true (by omega)
  refine Jc ?_
  refine J.eq ret_seq ?_
  refine J.some ?_
  exact Js
noncomputable def t19 (fu : Nat) : CallP := orE 33 (mkC (fun (t : T_Tensor) => ([.agg (c_T_Tensor t)] : List AV)) (fun t => tens_Copy fu t) e33) (orE 34 (mkC (fun (t : Int) => ([.v (.int .u32 t)] : List AV)) (fun t => soft_Canon fu t) e34) (noP))
theorem t19_ok (fu : Nat) : CpOK Tryz.prog (t19 fu ) := orE_ok (orE_ok (noP_ok) (mkC_ok (fun t b h => ok34 fu t  b h))) (mkC_ok (fun t b h => ok33 fu t  b h))
theorem ok19 (fu : Nat) (x1 : T_Tensor) (r) (h : tens_Canon fu x1 = some r) : PureOK Tryz.prog 19 [.agg (c_T_Tensor x1)] (e19 r) :=
  pure_J mixed (cp := t19 fu ) (t19_ok fu  ) noI_ok i19 (w19 _ fu x1  (fun a0 r h => orE_hit (mkC_at (a := a0) (by intro a b h; first | (exact rfl) | (simp only [INJ, IJ] at h; first | exact h | (simp_all [Prod.ext_iff]) )) h)) (fun a0 r h => orE_miss (by decide) (orE_hit (mkC_at (a := a0) (by intro a b h; first | (exact rfl) | (simp only [INJ, IJ] at h; first | exact h | (simp_all [Prod.ext_iff]) )) h)))) h
/-! 39: slices.Clone[[]int,int] -/
def d39 : List (Nat × List Nat) := [(0, [2]), (0, []), (0, [3]), (0, []), (0, []), (0, []), (0, [0, 5, 6, 7])]
def d39_at := And.intro (show d39.getD 0 (0, []) = (0, [2]) from rfl) <| And.intro (show d39.getD 1 (0, []) = (0, []) from rfl) <| And.intro (show d39.getD 2 (0, []) = (0, [3]) from rfl) <| And.intro (show d39.getD 3 (0, []) = (0, []) from rfl) <| And.intro (show d39.getD 4 (0, []) = (0, []) from rfl) <| And.intro (show d39.getD 5 (0, []) = (0, []) from rfl) <| (show d39.getD 6 (0, []) = (0, [0, 5, 6, 7]) from rfl)
theorem i39 : finfo Tryz.prog 39 d39 = some ⟨bodyOf Tryz.f39, [.tmp 2], [22]⟩ := finfo_at Tryz.func39 rfl (by kernel_rfl) (by kernel_rfl)
def e39 : List Int → AV := fun r => .fresh 1 r.length (lm (ik .i64) r)
theorem ok39 (fu : Nat) (x1 : List Int) (r) (h : slices_Clone_int fu x1 = some r) : PureOK Tryz.prog 39 [.arr x1.length (lm (ik .i64) x1)] (e39 r) := by
  unfold slices_Clone_int chk at h
  split at h
  · rename_i hs; injection h with h; subst h
    cases x1 with
    | nil =>
      refine PureOK.arr0 fun a c => ?_
      refine pure_J mixed (C := noC) (cp := noP) (n := 0) noP_ok noI_ok i39 (s := some []) (enc := e39) ?_ rfl
      refine J.some ?_
      unfold e39
      cases a with
      | none =>
        conv => lhs; simp (disch := first | exact Zd | fail) only [bodyOf, Tryz.f39, ZZ, d39_at, simprocAttr, abin_sl tv22]
        rw [go_seq]
        simp (disch := first | exact Zd | fail) only [ZZ, d39_at, simprocAttr, abin_sl tv22, FF, NN, NT]
      | some a =>
        conv => lhs; simp (disch := first | exact Zd | fail) only [bodyOf, Tryz.f39, ZZ, d39_at, simprocAttr, abin_sl tv22]
        rw [go_seq]
        conv => lhs; simp (disch := first | exact Zd | fail) only [ZZ, d39_at, simprocAttr, abin_sl tv22]
        rw [ret_seq]
        simp (disch := first | exact Zd | fail) only [ZZ, d39_at, simprocAttr, abin_sl tv22, FF, NN, NT]
    | cons y x1 =>
      refine pure_J mixed (C := noC) (cp := noP) (n := 0) noP_ok noI_ok i39 (s := some (y :: x1)) (enc := e39) ?_ rfl
      refine J.some ?_
      have ha : ∀ xs, abin Tryz.prog .eql 22 (.arr (y :: x1).length xs) (.v (.slice none 0 0)) = some (.v (.bool false)) := fun xs => abin_an (op := .eql) tv22 (by simp)
      generalize y :: x1 = l at hs ha ⊢
      unfold e39
      conv => lhs; simp (disch := first | exact Zd | fail) only [bodyOf, Tryz.f39, ZZ, d39_at, simprocAttr, abin_sl tv22, ha]
      rw [go_seq]
      conv => lhs; simp (disch := first | exact Zd | fail) only [ZZ, d39_at, simprocAttr, abin_sl tv22, ha]
      rw [ret_seq]
      simp (disch := first | exact Zd | fail) only [ZZ, d39_at, simprocAttr, abin_sl tv22, FF, NN, NT, lm_length]
  · cases h
/-! 21: lattice/ewise.Vals -/
open Aw (d21)
def d21_at := by have h := tabL Aw.d21.eq_1; simp only [AllAt, Nat.zero_add, Nat.reduceAdd] at h; exact h
theorem i21 : finfo Tryz.prog 21 d21 = some ⟨bodyOf Tryz.f21, [.tmp 2], [53]⟩ := finfo_at Tryz.func21 rfl (by kernel_rfl) (by kernel_rfl)
def e21 : (List T_Val) → AV := fun r => .arr r.length (fm c_T_Val r)
set_option maxHeartbeats 20000000 in
theorem w21 (cp : CallP) (fu : Nat) (x1 : List T_Tensor) (H39_0 : ∀ (a0 : List Int) r, slices_Clone_int fu a0 = some r → cp 39 [.arr a0.length (lm (ik .i64) a0)] = some (.fresh 1 r.length (lm (ik .i64) r))) (H33_0 : ∀ (a0 : T_Tensor) r, tens_Copy fu a0 = some r → cp 33 [.agg (c_T_Tensor a0)] = some (.agg [.v (.int .i64 r.fType), .fresh 1 r.fDims.length (lm (ik .i64) r.fDims), .fresh 1 r.fF.length (lm (ik .u32) r.fF), .fresh 1 r.fI.length (lm (ik .i64) r.fI), .fresh 1 r.fB.length (lm (bk) r.fB)])) : J (go Tryz.prog noC cp noI 0 [] d21 fu (finS Tryz.prog [.tmp 2] [53]) (bodyOf Tryz.f21) (initE 0 [.arr x1.length (fm c_T_Tensor x1)]) [] []) (ewise_Vals fu x1) e21 := by
 unfold ewise_Vals e21
 have da := d21_at
 conv => arg 1; simp (disch := first | exact Zd | fail) only [bodyOf, Tryz.f21, ZZ, d21_at, simprocAttr, SE]
 refine J.eq go_seq ?_
 conv => arg 1; simp (disch := first | exact Zd | fail) only [ZZ, d21_at, simprocAttr, SE]
 unfold ewise_Vals.W1
 refine J.loop (fun (s : (List T_Val) × Int) => ([(3, .own (0, 3, 77) 0 s.1.length s.1.length), (7, .arr x1.length (fm c_T_Tensor x1)), (8, .v (.int .i64 (x1.length : Int))), (9, .v (.int .i64 s.2))], [((0, 3, 77), .sl true true 8 s.1.length (fm c_T_Val s.1))])) (fun next s => ewise_Vals.L1 fu x1 (fun x5 x6 => next (x5, x6)) s.1 s.2) (s0 := (([] : List T_Val), 0)) ?_ ?_ ?_
 ·exact Ze
 ·exact Zh
 rintro next k1 hn1 ⟨x5, x6⟩
 let nx1 : (List T_Val) → Int → Option (List T_Val) := (fun x5 x6 => next (x5, x6))
 show J _ (ewise_Vals.L1 fu x1 nx1 x5 x6) _
 unfold ewise_Vals.L1
 conv => arg 1; simp (disch := first | exact Zd | fail) only [ZZ, d21_at, simprocAttr, SE]
 refine J.eq go_seq ?_
 conv => arg 1; simp (disch := first | exact Zd | fail) only [ZZ, d21_at, simprocAttr, SE]
 refine J.ite (fun h1 => ?_) (fun h1 => ?_)
 ·have h1' := decide_eq_true h1
  have h1'' : decide ((x1.length : Int) ≤ x6) = false := decide_eq_false (by omega)
  conv => arg 1; simp (disch := first | exact Zd | fail) only [ZZ, d21_at, simprocAttr, SE, h1'', h1']
  refine J.eq ret_seq ?_
  refine J.eq go_seq ?_
  refine J.at fun x10 h2 h3 h4 => ?_
  conv => arg 1; simp (disch := first | exact Zd | fail) only [ZZ, d21_at, simprocAttr, SE, h1'', h1', fm_cut c_T_Tensor_len h4, fm_fit c_T_Tensor_len h4, fm_at c_T_Tensor_len h4, fm_at0 c_T_Tensor_len h4]
  refine J.eq go_seq ?_
  conv => arg 1; simp (disch := first | exact Zd | fail) only [ZZ, d21_at, simprocAttr, SE, h1'', h1', fm_cut c_T_Tensor_len h4, fm_fit c_T_Tensor_len h4, fm_at c_T_Tensor_len h4, fm_at0 c_T_Tensor_len h4]
  refine J.ite (fun h5 => ?_) (fun h5 => ?_)
  ·have h5' := decide_eq_true h5
   conv => arg 1; simp (disch := first | exact Zd | fail) only [ZZ, d21_at, simprocAttr, SE, h1'', h1', fm_cut c_T_Tensor_len h4, fm_fit c_T_Tensor_len h4, fm_at c_T_Tensor_len h4, fm_at0 c_T_Tensor_len h4, h5']
   refine J.eq ret_seq ?_
   refine J.chk fun h6 => ?_
   conv => arg 1; simp (disch := first | exact Zd | fail) only [ZZ, d21_at, simprocAttr, SE, h1'', h1', fm_cut c_T_Tensor_len h4, fm_fit c_T_Tensor_len h4, fm_at c_T_Tensor_len h4, fm_at0 c_T_Tensor_len h4, h5']
   refine J.eq ret_seq ?_
   conv => arg 1; simp (disch := first | exact Zd | fail) only [ZZ, d21_at, simprocAttr, SE, h1'', h1', fm_cut c_T_Tensor_len h4, fm_fit c_T_Tensor_len h4, fm_at c_T_Tensor_len h4, fm_at0 c_T_Tensor_len h4, h5']
   refine J.next (s := (x5 ++ ([T_Val.mk 0 ([]) false (T_Tensor.mk 0 ([]) ([]) ([]) ([]))]), wk .i64 (x6 + 1))) hn1 ?_ ?_
   ·exact Ze
   ·exact Zh
  ·have h5' := decide_eq_false h5
   refine J.bind fun x11 h7 => ?_
   have e_h7 := H39_0 _ _ h7
   try simp only [NN, NT, LN, simprocAttr, DT] at e_h7
   refine J.bind fun x12 h8 => ?_
   have e_h8 := H33_0 _ _ h8
   try simp only [NN, NT, LN, simprocAttr, DT] at e_h8
   conv => arg 1; simp (disch := first | exact Zd | fail) only [ZZ, d21_at, simprocAttr, SE, h1'', h1', fm_cut c_T_Tensor_len h4, fm_fit c_T_Tensor_len h4, fm_at c_T_Tensor_len h4, fm_at0 c_T_Tensor_len h4, h5', e_h7, e_h8]
   refine J.eq ret_seq ?_
   refine J.chk fun h9 => ?_
   conv => arg 1; simp (disch := first | exact Zd | fail) only [ZZ, d21_at, simprocAttr, SE, h1'', h1', fm_cut c_T_Tensor_len h4, fm_fit c_T_Tensor_len h4, fm_at c_T_Tensor_len h4, fm_at0 c_T_Tensor_len h4, h5', e_h7, e_h8]
   refine J.eq ret_seq ?_
   conv => arg 1; simp (disch := first | exact Zd | fail) only [ZZ, d21_at, simprocAttr, SE, h1'', h1', fm_cut c_T_Tensor_len h4, fm_fit c_T_Tensor_len h4, fm_at c_T_Tensor_len h4, fm_at0 c_T_Tensor_len h4, h5', e_h7, e_h8]
   refine J.next (s := (x5 ++ ([T_Val.mk x10.fType x11 true x12]), wk .i64 (x6 + 1))) hn1 ?_ ?_
   ·exact Ze
   ·exact Zh
 ·have h1' := decide_eq_false h1
  have h1'' : decide ((x1.length : Int) ≤ x6) = true := decide_eq_true (by omega)
  conv => arg 1; simp (disch := first | exact Zd | fail) only [ZZ, d21_at, simprocAttr, SE, h1'', h1']
  refine J.eq ret_seq ?_
  refine J.some ?_
  simp (maxSteps := 20000000) (disch := first | exact Zd | fail) only [ZZ, d21_at, simprocAttr, SE, h1'', h1', FN]
noncomputable def t21 (fu : Nat) : CallP := orE 39 (mkC (fun (t : List Int) => ([.arr t.length (lm (ik .i64) t)] : List AV)) (fun t => slices_Clone_int fu t) e39) (orE 33 (mkC (fun (t : T_Tensor) => ([.agg (c_T_Tensor t)] : List AV)) (fun t => tens_Copy fu t) e33) (noP))
theorem t21_ok (fu : Nat) : CpOK Tryz.prog (t21 fu ) := orE_ok (orE_ok (noP_ok) (mkC_ok (fun t b h => ok33 fu t  b h))) (mkC_ok (fun t b h => ok39 fu t  b h))
theorem ok21 (fu : Nat) (x1 : List T_Tensor) (r) (h : ewise_Vals fu x1 = some r) : PureOK Tryz.prog 21 [.arr x1.length (fm c_T_Tensor x1)] (e21 r) :=
  pureS_J mixed (cp := t21 fu ) (t21_ok fu  ) noI_ok i21 (w21 _ fu x1  (fun a0 r h => orE_hit (mkC_at (a := a0) (by intro a b h; first | (exact rfl) | (simp only [INJ, IJ] at h; first | exact h | (simp_all [Prod.ext_iff]) )) h)) (fun a0 r h => orE_miss (by decide) (orE_hit (mkC_at (a := a0) (by intro a b h; first | (exact rfl) | (simp only [INJ, IJ] at h; first | exact h | (simp_all [Prod.ext_iff]) )) h)))) h
/-! 67: lattice/ops.Arity -/
def e67 : (Int × Int × Int × Int) → AV := fun r => .tuple [.v (.int .i64 r.1), .v (.int .i64 r.2.1), .v (.int .i64 r.2.2.1), .v (.int .i64 r.2.2.2)]
theorem ok67 (fu : Nat) (x1 : Int) (r) (h : ops_Arity fu x1 = some r) : PureOK Tryz.prog 67 [.v (.int .i64 x1)] (e67 r) := by
  unfold ops_Arity spl chk at h
  split at h
  · rename_i hx; injection h with h; subst h
    obtain rfl := hx
    exact closed67_63
  split at h
  · rename_i hx; injection h with h; subst h
    obtain rfl := hx
    exact closed67_64
  · cases h
/-! 84: (lattice/infer.ask).val -/
open Aw (d84)
def d84_at := by have h := tabL Aw.d84.eq_1; simp only [AllAt, Nat.zero_add, Nat.reduceAdd] at h; exact h
theorem i84 : finfo Tryz.prog 84 d84 = some ⟨bodyOf Tryz.f84, [.cell 4 62], [62]⟩ := finfo_at Tryz.func84 rfl (by kernel_rfl) (by kernel_rfl)
def e84 : T_Val → AV := fun r => .agg [.v (.int .i64 r.fType), .arr r.fDims.length (lm (ik .i64) r.fDims), .v (.bool r.fConst), .v (.int .i64 r.fT.fType), .arr r.fT.fDims.length (lm (ik .i64) r.fT.fDims), .arr r.fT.fF.length (lm (ik .u32) r.fT.fF), .arr r.fT.fI.length (lm (ik .i64) r.fT.fI), .arr r.fT.fB.length (lm (bk) r.fT.fB)]
set_option maxHeartbeats 20000000 in
theorem w84 (cp : CallP) (fu : Nat) (x1 : T_infer_ask) (x2 : Int) : J (go Tryz.prog noC cp noI 0 [] d84 fu (finS Tryz.prog [.cell 4 62] [62]) (bodyOf Tryz.f84) (initE 0 [.agg (c_T_infer_ask x1), .v (.int .i64 x2)]) [] []) (infer_ask_val fu x1 x2) e84 := by
 unfold infer_ask_val e84
 have da := d84_at
 refine J.spl (fun h1 => ?_) (fun h1 => ?_)
 ·conv => arg 1; simp (disch := first | exact Zd | fail) only [bodyOf, Tryz.f84, ZZ, d84_at, simprocAttr, SE, h1]
  refine J.eq go_seq ?_
  conv => arg 1; simp (disch := first | exact Zd | fail) only [ZZ, d84_at, simprocAttr, SE, h1]
  refine J.ite (fun h2 => ?_) (fun h2 => ?_)
  ·have h2' := decide_eq_true h2
   have h2'' : decide ((x1.fin.length : Int) ≤ x2) = false := decide_eq_false (by omega)
   refine J.at fun x3 h3 h4 h5 => ?_
   refine J.some ?_
   simp (maxSteps := 20000000) (disch := first | exact Zd | fail) only [ZZ, d84_at, simprocAttr, SE, h1, h2'', h2', fm_cut c_T_Val_len h5, fm_fit c_T_Val_len h5, fm_at c_T_Val_len h5, fm_at0 c_T_Val_len h5, FN]
  ·have h2' := decide_eq_false h2
   have h2'' : decide ((x1.fin.length : Int) ≤ x2) = true := decide_eq_true (by omega)
   conv => arg 1; simp (disch := first | exact Zd | fail) only [ZZ, d84_at, simprocAttr, SE, h1, h2'', h2']
   refine J.eq ret_seq ?_
   refine J.some ?_
   simp (maxSteps := 20000000) (disch := first | exact Zd | fail) only [ZZ, d84_at, simprocAttr, SE, h1, h2'', h2', FN]
 ·refine J.chk fun h6 => ?_
  conv => arg 1; simp (disch := first | exact Zd | fail) only [bodyOf, Tryz.f84, ZZ, d84_at, simprocAttr, SE, h6]
  refine J.eq go_seq ?_
  conv => arg 1; simp (disch := first | exact Zd | fail) only [ZZ, d84_at, simprocAttr, SE, h6]
  refine J.ite (fun h7 => ?_) (fun h7 => ?_)
  ·have h7' := decide_eq_true h7
   have h7'' : decide ((x1.fin.length : Int) ≤ x2) = false := decide_eq_false (by omega)
   refine J.at fun x4 h8 h9 h10 => ?_
   refine J.some ?_
   simp (maxSteps := 20000000) (disch := first | exact Zd | fail) only [ZZ, d84_at, simprocAttr, SE, h6, h7'', h7', fm_cut c_T_Val_len h10, fm_fit c_T_Val_len h10, fm_at c_T_Val_len h10, fm_at0 c_T_Val_len h10, FN]
  ·have h7' := decide_eq_false h7
   have h7'' : decide ((x1.fin.length : Int) ≤ x2) = true := decide_eq_true (by omega)
   conv => arg 1; simp (disch := first | exact Zd | fail) only [ZZ, d84_at, simprocAttr, SE, h6, h7'', h7']
   refine J.eq ret_seq ?_
   refine J.some ?_
   simp (maxSteps := 20000000) (disch := first | exact Zd | fail) only [ZZ, d84_at, simprocAttr, SE, h6, h7'', h7', FN]
noncomputable def t84 (fu : Nat) : CallP := noP
theorem t84_ok (fu : Nat) : CpOK Tryz.prog (t84 fu ) := noP_ok
theorem ok84 (fu : Nat) (x1 : T_infer_ask) (x2 : Int) (r) (h : infer_ask_val fu x1 x2 = some r) : PureOK Tryz.prog 84 [.agg (c_T_infer_ask x1), .v (.int .i64 x2)] (e84 r) :=
  pureS_J mixed (cp := t84 fu ) (t84_ok fu  ) noI_ok i84 (w84 _ fu x1 x2  ) h
/-! 68: (lattice/infer.ask).has -/
open Aw (d68)
def d68_at := by have h := tabL Aw.d68.eq_1; simp only [AllAt, Nat.zero_add, Nat.reduceAdd] at h; exact h
theorem i68 : finfo Tryz.prog 68 d68 = some ⟨bodyOf Tryz.f68, [.tmp 4], [4]⟩ := finfo_at Tryz.func68 rfl (by kernel_rfl) (by kernel_rfl)
def e68 : Bool → AV := fun r => .v (.bool r)
set_option maxHeartbeats 20000000 in
theorem w68 (cp : CallP) (fu : Nat) (x1 : T_infer_ask) (x2 : Int) (H84_0 : ∀ (a0 : T_infer_ask) (a1 : Int) r, infer_ask_val fu a0 a1 = some r → cp 84 [.agg (c_T_infer_ask a0), .v (.int .i64 a1)] = some (.agg [.v (.int .i64 r.fType), .arr r.fDims.length (lm (ik .i64) r.fDims), .v (.bool r.fConst), .v (.int .i64 r.fT.fType), .arr r.fT.fDims.length (lm (ik .i64) r.fT.fDims), .arr r.fT.fF.length (lm (ik .u32) r.fT.fF), .arr r.fT.fI.length (lm (ik .i64) r.fT.fI), .arr r.fT.fB.length (lm (bk) r.fT.fB)])) : J (go Tryz.prog noC cp noI 0 [] d68 fu (fin Tryz.prog [.tmp 4] [4]) (bodyOf Tryz.f68) (initE 0 [.agg (c_T_infer_ask x1), .v (.int .i64 x2)]) [] []) (infer_ask_has fu x1 x2) e68 := by
 unfold infer_ask_has e68
 have da := d68_at
 refine J.spl (fun h1 => ?_) (fun h1 => ?_)
 ·refine J.bind fun x3 h2 => ?_
  have e_h2 := H84_0 _ _ _ h2
  try simp only [NN, NT, LN, simprocAttr, DT] at e_h2
  refine J.some ?_
  simp (maxSteps := 20000000) (disch := first | exact Zd | fail) only [bodyOf, Tryz.f68, ZZ, d68_at, simprocAttr, h1, e_h2, FN]
 ·refine J.chk fun h3 => ?_
  refine J.bind fun x4 h4 => ?_
  have e_h4 := H84_0 _ _ _ h4
  try simp only [NN, NT, LN, simprocAttr, DT] at e_h4
  refine J.some ?_
  simp (maxSteps := 20000000) (disch := first | exact Zd | fail) only [bodyOf, Tryz.f68, ZZ, d68_at, simprocAttr, h3, e_h4, FN]
noncomputable def t68 (fu : Nat) : CallP := orE 84 (mkC (fun (t : T_infer_ask × Int) => ([.agg (c_T_infer_ask t.1), .v (.int .i64 t.2)] : List AV)) (fun t => infer_ask_val fu t.1 t.2) e84) (noP)
theorem t68_ok (fu : Nat) : CpOK Tryz.prog (t68 fu ) := orE_ok (noP_ok) (mkC_ok (fun t b h => ok84 fu t.1 t.2  b h))
theorem ok68 (fu : Nat) (x1 : T_infer_ask) (x2 : Int) (r) (h : infer_ask_has fu x1 x2 = some r) : PureOK Tryz.prog 68 [.agg (c_T_infer_ask x1), .v (.int .i64 x2)] (e68 r) :=
  pure_J mixed (cp := t68 fu ) (t68_ok fu  ) noI_ok i68 (w68 _ fu x1 x2  (fun a0 a1 r h => orE_hit (mkC_at (a := (a0, a1)) (by intro a b h; first | (exact rfl) | (simp only [INJ, IJ] at h; first | exact h | (simp_all [Prod.ext_iff]) )) h))) h
/-! 35: (lattice/infer.ask).complete -/
open Aw (d35)
def d35_at := by have h := tabL Aw.d35.eq_1; simp only [AllAt, Nat.zero_add, Nat.reduceAdd] at h; exact h
theorem i35 : finfo Tryz.prog 35 d35 = some ⟨bodyOf Tryz.f35, [.tmp 2], [4]⟩ := finfo_at Tryz.func35 rfl (by kernel_rfl) (by kernel_rfl)
def e35 : Bool → AV := fun r => .v (.bool r)
set_option maxHeartbeats 20000000 in
theorem w35 (cp : CallP) (fu : Nat) (x1 : T_infer_ask) (H67_0 : ∀ (a0 : Int) r, ops_Arity fu a0 = some r → cp 67 [.v (.int .i64 a0)] = some (.tuple [.v (.int .i64 r.1), .v (.int .i64 r.2.1), .v (.int .i64 r.2.2.1), .v (.int .i64 r.2.2.2)])) (H68_0 : ∀ (a0 : T_infer_ask) (a1 : Int) r, infer_ask_has fu a0 a1 = some r → cp 68 [.agg (c_T_infer_ask a0), .v (.int .i64 a1)] = some (.v (.bool r))) : J (go Tryz.prog noC cp noI 0 [] d35 fu (fin Tryz.prog [.tmp 2] [4]) (bodyOf Tryz.f35) (initE 0 [.agg (c_T_infer_ask x1)]) [] []) (infer_ask_complete fu x1) e35 := by
 unfold infer_ask_complete e35
 have da := d35_at
 refine J.spl (fun h1 => ?_) (fun h1 => ?_)
 ·refine J.bind fun x2 h2 => ?_
  have e_h2 := H67_0 _ _ h2
  try simp only [NN, NT, LN, simprocAttr, DT] at e_h2
  conv => arg 1; simp (disch := first | exact Zd | fail) only [bodyOf, Tryz.f35, ZZ, d35_at, simprocAttr, h1, e_h2]
  refine J.joinS (fun (t : Unit) => ([(1, .ptr (0, 1, 0) 0 0), (3, .v (.int .i64 x2.1))], [((0, 1, 0), .bx true ([.v (.int .i64 63), .v (.int .i64 x1.fs.fAxis), .arr x1.fs.fAxes.length (lm (ik .i64) x1.fs.fAxes), .v (.bool x1.fs.fHasAxes), .v (.bool x1.fs.fKeep), .v (.bool x1.fs.fNoop), .v (.bool x1.fs.fLast), .v (.bool x1.fs.fZero), .arr x1.fs.fPerm.length (lm (ik .i64) x1.fs.fPerm), .v (.bool x1.fs.fHasPerm), .v (.int .u32 x1.fs.fAlpha), .v (.int .u32 x1.fs.fBeta), .v (.int .u32 x1.fs.fEpsilon), .v (.bool x1.fs.fLow), .v (.bool x1.fs.fHigh), .v (.bool x1.fs.fFmod), .v (.int .i64 x1.fs.fTo), .v (.int .i64 x1.fs.fMode), .v (.bool x1.fs.fTransA), .v (.bool x1.fs.fTransB), .v (.int .i64 x1.fs.fGroup), .arr x1.fs.fKernel.length (lm (ik .i64) x1.fs.fKernel), .arr x1.fs.fStrides.length (lm (ik .i64) x1.fs.fStrides), .arr x1.fs.fPads.length (lm (ik .i64) x1.fs.fPads), .arr x1.fs.fDilations.length (lm (ik .i64) x1.fs.fDilations), .v (.int .i64 x1.fs.fAuto), .v (.bool x1.fs.fCeil), .v (.bool x1.fs.fCount), .v (.int .i64 x1.fs.fBlock), .v (.int .i64 x1.fs.fStart), .v (.int .i64 x1.fs.fEnd), .v (.bool x1.fs.fHasEnd), .v (.int .i64 x1.fs.fValue.fType), .arr x1.fs.fValue.fDims.length (lm (ik .i64) x1.fs.fValue.fDims), .arr x1.fs.fValue.fF.length (lm (ik .u32) x1.fs.fValue.fF), .arr x1.fs.fValue.fI.length (lm (ik .i64) x1.fs.fValue.fI), .arr x1.fs.fValue.fB.length (lm (bk) x1.fs.fValue.fB), .arr x1.fin.length (fm c_T_Val x1.fin), .v (.int .i64 x1.fouts)]))])) (fun t => infer_ask_complete.k1 fu x1 x2) ?_ (fun hj1 => ?_)
  ·rintro ⟨⟩
   show J _ (infer_ask_complete.k1 fu x1 x2) _
   unfold infer_ask_complete.k1
   refine J.eq go_seq ?_
   refine Jc ?_
   unfold infer_ask_complete.W1
   refine J.loop (fun (s : Int) => ([(1, .ptr (0, 1, 0) 0 0), (49, .v (.int .i64 x2.1)), (50, .v (.int .i64 s))], [((0, 1, 0), .bx true ([.v (.int .i64 63), .v (.int .i64 x1.fs.fAxis), .arr x1.fs.fAxes.length (lm (ik .i64) x1.fs.fAxes), .v (.bool x1.fs.fHasAxes), .v (.bool x1.fs.fKeep), .v (.bool x1.fs.fNoop), .v (.bool x1.fs.fLast), .v (.bool x1.fs.fZero), .arr x1.fs.fPerm.length (lm (ik .i64) x1.fs.fPerm), .v (.bool x1.fs.fHasPerm), .v (.int .u32 x1.fs.fAlpha), .v (.int .u32 x1.fs.fBeta), .v (.int .u32 x1.fs.fEpsilon), .v (.bool x1.fs.fLow), .v (.bool x1.fs.fHigh), .v (.bool x1.fs.fFmod), .v (.int .i64 x1.fs.fTo), .v (.int .i64 x1.fs.fMode), .v (.bool x1.fs.fTransA), .v (.bool x1.fs.fTransB), .v (.int .i64 x1.fs.fGroup), .arr x1.fs.fKernel.length (lm (ik .i64) x1.fs.fKernel), .arr x1.fs.fStrides.length (lm (ik .i64) x1.fs.fStrides), .arr x1.fs.fPads.length (lm (ik .i64) x1.fs.fPads), .arr x1.fs.fDilations.length (lm (ik .i64) x1.fs.fDilations), .v (.int .i64 x1.fs.fAuto), .v (.bool x1.fs.fCeil), .v (.bool x1.fs.fCount), .v (.int .i64 x1.fs.fBlock), .v (.int .i64 x1.fs.fStart), .v (.int .i64 x1.fs.fEnd), .v (.bool x1.fs.fHasEnd), .v (.int .i64 x1.fs.fValue.fType), .arr x1.fs.fValue.fDims.length (lm (ik .i64) x1.fs.fValue.fDims), .arr x1.fs.fValue.fF.length (lm (ik .u32) x1.fs.fValue.fF), .arr x1.fs.fValue.fI.length (lm (ik .i64) x1.fs.fValue.fI), .arr x1.fs.fValue.fB.length (lm (bk) x1.fs.fValue.fB), .arr x1.fin.length (fm c_T_Val x1.fin), .v (.int .i64 x1.fouts)]))])) (fun next s => infer_ask_complete.L1 fu x1 x2 next s) (s0 := 0) ?_ ?_ ?_
   ·exact Ze
   ·exact Zh
   rintro nx1 k1 hn1 x4
   show J _ (infer_ask_complete.L1 fu x1 x2 nx1 x4) _
   unfold infer_ask_complete.L1
   refine Jc ?_
   refine J.eq go_seq ?_
   refine Jc ?_
   refine J.ite (fun h3 => ?_) (fun h3 => ?_)
   ·have h3' := decide_eq_true h3
    have h3'' : decide (x2.1 ≤ x4) = false := decide_eq_false (by omega)
    refine Jc ?_
    refine J.eq ret_seq ?_
    refine J.eq go_seq ?_
    refine J.bind fun x6 h4 => ?_
    have e_h4 := H68_0 _ _ _ h4
    try simp only [NN, NT, LN, simprocAttr, DT] at e_h4
    refine Jc ?_
    refine J.ite (fun h5 => ?_) (fun h5 => ?_)
    ·have h5' : x6 = true := h5
     refine Jc ?_
     refine J.eq ret_seq ?_
     refine Jc ?_
     refine J.next (s := wk .i64 (x4 + 1)) hn1 ?_ ?_
     ·exact Ze
     ·exact Zh
    ·have h5' : x6 = false := Bool.eq_false_iff.2 h5
     refine J.some ?_
     exact Js
   ·have h3' := decide_eq_false h3
    have h3'' : decide (x2.1 ≤ x4) = true := decide_eq_true (by omega)
    refine Jc ?_
    refine J.eq ret_seq ?_
    refine J.some ?_
    exact Js
  ·refine J.hd jn_at ?_
   refine J.eq go_seq ?_
   refine Jc ?_
   refine J.ite (fun h6 => ?_) (fun h6 => ?_)
   ·have h6' := decide_eq_true h6
    refine Jc ?_
    refine J.eq ret_seq ?_
    refine J.some ?_
    exact Js
   ·have h6' := decide_eq_false h6
    refine Jc ?_
    refine J.ite (fun h7 => ?_) (fun h7 => ?_)
    ·have h7' := decide_eq_true h7
     have h7'' : decide (x2.1 ≤ (x1.fin.length : Int)) = false := decide_eq_false (by omega)
     refine Jc ?_
     refine J.eq ret_seq ?_
     refine J.some ?_
     exact Js
    ·have h7' := decide_eq_false h7
     have h7'' : decide (x2.1 ≤ (x1.fin.length : Int)) = true := decide_eq_true (by omega)
     refine Jc ?_
     refine J.ite (fun h8 => ?_) (fun h8 => ?_)
     ·have h8' := decide_eq_true h8
      have h8'' : decide ((x1.fin.length : Int) ≤ x2.2.1) = false := decide_eq_false (by omega)
      refine Jc ?_
      refine J.eq ret_seq ?_
      refine J.some ?_
      exact Js
     ·have h8' := decide_eq_false h8
      have h8'' : decide ((x1.fin.length : Int) ≤ x2.2.1) = true := decide_eq_true (by omega)
      refine Jc ?_
      refine J.ite (fun h9 => ?_) (fun h9 => ?_)
      ·have h9' := decide_eq_true h9
       have h9'' : decide (x2.2.2.1 ≤ x1.fouts) = false := decide_eq_false (by omega)
       refine Jc ?_
       refine J.eq ret_seq ?_
       refine J.some ?_
       exact Js
      ·have h9' := decide_eq_false h9
       have h9'' : decide (x2.2.2.1 ≤ x1.fouts) = true := decide_eq_true (by omega)
       refine Jc ?_
       refine J.eq ret_seq ?_
       refine Jc ?_
       refine J.ite (fun h10 => ?_) (fun h10 => ?_)
       ·have h10' := decide_eq_true h10
        have h10'' : decide (x1.fouts ≤ x2.2.2.2) = false := decide_eq_false (by omega)
        refine J.some ?_
        exact Js
       ·have h10' := decide_eq_false h10
        have h10'' : decide (x1.fouts ≤ x2.2.2.2) = true := decide_eq_true (by omega)
        refine Jc ?_
        refine J.jmp (t := ()) hj1 ?_ ?_
        ·exact Ze
        ·exact Zh
 ·refine J.chk fun h11 => ?_
  refine J.bind fun x7 h12 => ?_
  have e_h12 := H67_0 _ _ h12
  try simp only [NN, NT, LN, simprocAttr, DT] at e_h12
  conv => arg 1; simp (disch := first | exact Zd | fail) only [bodyOf, Tryz.f35, ZZ, d35_at, simprocAttr, h11, e_h12]
  refine J.joinS (fun (t : Unit) => ([(1, .ptr (0, 1, 0) 0 0), (3, .v (.int .i64 x7.1))], [((0, 1, 0), .bx true ([.v (.int .i64 64), .v (.int .i64 x1.fs.fAxis), .arr x1.fs.fAxes.length (lm (ik .i64) x1.fs.fAxes), .v (.bool x1.fs.fHasAxes), .v (.bool x1.fs.fKeep), .v (.bool x1.fs.fNoop), .v (.bool x1.fs.fLast), .v (.bool x1.fs.fZero), .arr x1.fs.fPerm.length (lm (ik .i64) x1.fs.fPerm), .v (.bool x1.fs.fHasPerm), .v (.int .u32 x1.fs.fAlpha), .v (.int .u32 x1.fs.fBeta), .v (.int .u32 x1.fs.fEpsilon), .v (.bool x1.fs.fLow), .v (.bool x1.fs.fHigh), .v (.bool x1.fs.fFmod), .v (.int .i64 x1.fs.fTo), .v (.int .i64 x1.fs.fMode), .v (.bool x1.fs.fTransA), .v (.bool x1.fs.fTransB), .v (.int .i64 x1.fs.fGroup), .arr x1.fs.fKernel.length (lm (ik .i64) x1.fs.fKernel), .arr x1.fs.fStrides.length (lm (ik .i64) x1.fs.fStrides), .arr x1.fs.fPads.length (lm (ik .i64) x1.fs.fPads), .arr x1.fs.fDilations.length (lm (ik .i64) x1.fs.fDilations), .v (.int .i64 x1.fs.fAuto), .v (.bool x1.fs.fCeil), .v (.bool x1.fs.fCount), .v (.int .i64 x1.fs.fBlock), .v (.int .i64 x1.fs.fStart), .v (.int .i64 x1.fs.fEnd), .v (.bool x1.fs.fHasEnd), .v (.int .i64 x1.fs.fValue.fType), .arr x1.fs.fValue.fDims.length (lm (ik .i64) x1.fs.fValue.fDims), .arr x1.fs.fValue.fF.length (lm (ik .u32) x1.fs.fValue.fF), .arr x1.fs.fValue.fI.length (lm (ik .i64) x1.fs.fValue.fI), .arr x1.fs.fValue.fB.length (lm (bk) x1.fs.fValue.fB), .arr x1.fin.length (fm c_T_Val x1.fin), .v (.int .i64 x1.fouts)]))])) (fun t => infer_ask_complete.k2 fu x1 x7) ?_ (fun hj2 => ?_)
  ·rintro ⟨⟩
   show J _ (infer_ask_complete.k2 fu x1 x7) _
   unfold infer_ask_complete.k2
   refine J.eq go_seq ?_
   refine Jc ?_
   unfold infer_ask_complete.W2
   refine J.loop (fun (s : Int) => ([(1, .ptr (0, 1, 0) 0 0), (49, .v (.int .i64 x7.1)), (50, .v (.int .i64 s))], [((0, 1, 0), .bx true ([.v (.int .i64 64), .v (.int .i64 x1.fs.fAxis), .arr x1.fs.fAxes.length (lm (ik .i64) x1.fs.fAxes), .v (.bool x1.fs.fHasAxes), .v (.bool x1.fs.fKeep), .v (.bool x1.fs.fNoop), .v (.bool x1.fs.fLast), .v (.bool x1.fs.fZero), .arr x1.fs.fPerm.length (lm (ik .i64) x1.fs.fPerm), .v (.bool x1.fs.fHasPerm), .v (.int .u32 x1.fs.fAlpha), .v (.int .u32 x1.fs.fBeta), .v (.int .u32 x1.fs.fEpsilon), .v (.bool x1.fs.fLow), .v (.bool x1.fs.fHigh), .v (.bool x1.fs.fFmod), .v (.int .i64 x1.fs.fTo), .v (.int .i64 x1.fs.fMode), .v (.bool x1.fs.fTransA), .v (.bool x1.fs.fTransB), .v (.int .i64 x1.fs.fGroup), .arr x1.fs.fKernel.length (lm (ik .i64) x1.fs.fKernel), .arr x1.fs.fStrides.length (lm (ik .i64) x1.fs.fStrides), .arr x1.fs.fPads.length (lm (ik .i64) x1.fs.fPads), .arr x1.fs.fDilations.length (lm (ik .i64) x1.fs.fDilations), .v (.int .i64 x1.fs.fAuto), .v (.bool x1.fs.fCeil), .v (.bool x1.fs.fCount), .v (.int .i64 x1.fs.fBlock), .v (.int .i64 x1.fs.fStart), .v (.int .i64 x1.fs.fEnd), .v (.bool x1.fs.fHasEnd), .v (.int .i64 x1.fs.fValue.fType), .arr x1.fs.fValue.fDims.length (lm (ik .i64) x1.fs.fValue.fDims), .arr x1.fs.fValue.fF.length (lm (ik .u32) x1.fs.fValue.fF), .arr x1.fs.fValue.fI.length (lm (ik .i64) x1.fs.fValue.fI), .arr x1.fs.fValue.fB.length (lm (bk) x1.fs.fValue.fB), .arr x1.fin.length (fm c_T_Val x1.fin), .v (.int .i64 x1.fouts)]))])) (fun next s => infer_ask_complete.L2 fu x1 x7 next s) (s0 := 0) ?_ ?_ ?_
   ·exact Ze
   ·exact Zh
   rintro nx2 k2 hn2 x9
   show J _ (infer_ask_complete.L2 fu x1 x7 nx2 x9) _
   unfold infer_ask_complete.L2
   refine Jc ?_
   refine J.eq go_seq ?_
   refine Jc ?_
   refine J.ite (fun h13 => ?_) (fun h13 => ?_)
   ·have h13' := decide_eq_true h13
    have h13'' : decide (x7.1 ≤ x9) = false := decide_eq_false (by omega)
    refine Jc ?_
    refine J.eq ret_seq ?_
    refine J.eq go_seq ?_
    refine J.bind fun x11 h14 => ?_
    have e_h14 := H68_0 _ _ _ h14
    try simp only [NN, NT, LN, simprocAttr, DT] at e_h14
    refine Jc ?_
    refine J.ite (fun h15 => ?_) (fun h15 => ?_)
    ·have h15' : x11 = true := h15
     refine Jc ?_
     refine J.eq ret_seq ?_
     refine Jc ?_
     refine J.next (s := wk .i64 (x9 + 1)) hn2 ?_ ?_
     ·exact Ze
     ·exact Zh
    ·have h15' : x11 = false := Bool.eq_false_iff.2 h15
     refine J.some ?_
     exact Js
   ·have h13' := decide_eq_false h13
    have h13'' : decide (x7.1 ≤ x9) = true := decide_eq_true (by omega)
    refine Jc ?_
    refine J.eq ret_seq ?_
    refine J.some ?_
    exact Js
  ·refine J.hd jn_at ?_
   refine J.eq go_seq ?_
   refine Jc ?_
   refine J.ite (fun h16 => ?_) (fun h16 => ?_)
   ·have h16' := decide_eq_true h16
    refine Jc ?_
    refine J.eq ret_seq ?_
    refine J.some ?_
    exact Js
   ·have h16' := decide_eq_false h16
    refine Jc ?_
    refine J.ite (fun h17 => ?_) (fun h17 => ?_)
    ·have h17' := decide_eq_true h17
     have h17'' : decide (x7.1 ≤ (x1.fin.length : Int)) = false := decide_eq_false (by omega)
     refine Jc ?_
     refine J.eq ret_seq ?_
     refine J.some ?_
     exact Js
    ·have h17' := decide_eq_false h17
     have h17'' : decide (x7.1 ≤ (x1.fin.length : Int)) = true := decide_eq_true (by omega)
     refine Jc ?_
     refine J.ite (fun h18 => ?_) (fun h18 => ?_)
     ·have h18' := decide_eq_true h18
      have h18'' : decide ((x1.fin.length : Int) ≤ x7.2.1) = false := decide_eq_false (by omega)
      refine Jc ?_
      refine J.eq ret_seq ?_
      refine J.some ?_
      exact Js
     ·have h18' := decide_eq_false h18
      have h18'' : decide ((x1.fin.length : Int) ≤ x7.2.1) = true := decide_eq_true (by omega)
      refine Jc ?_
      refine J.ite (fun h19 => ?_) (fun h19 => ?_)
      ·have h19' := decide_eq_true h19
       have h19'' : decide (x7.2.2.1 ≤ x1.fouts) = false := decide_eq_false (by omega)
       refine Jc ?_
       refine J.eq ret_seq ?_
       refine J.some ?_
       exact Js
      ·have h19' := decide_eq_false h19
       have h19'' : decide (x7.2.2.1 ≤ x1.fouts) = true := decide_eq_true (by omega)
       refine Jc ?_
       refine J.eq ret_seq ?_
       refine Jc ?_
       refine J.ite (fun h20 => ?_) (fun h20 => ?_)
       ·have h20' := decide_eq_true h20
        have h20'' : decide (x1.fouts ≤ x7.2.2.2) = false := decide_eq_false (by omega)
        refine J.some ?_
        exact Js
       ·have h20' := decide_eq_false h20
        have h20'' : decide (x1.fouts ≤ x7.2.2.2) = true := decide_eq_true (by omega)
        refine Jc ?_
        refine J.jmp (t := ()) hj2 ?_ ?_
        ·exact Ze
        ·exact Zh
noncomputable def t35 (fu : Nat) : CallP := orE 67 (mkC (fun (t : Int) => ([.v (.int .i64 t)] : List AV)) (fun t => ops_Arity fu t) e67) (orE 68 (mkC (fun (t : T_infer_ask × Int) => ([.agg (c_T_infer_ask t.1), .v (.int .i64 t.2)] : List AV)) (fun t => infer_ask_has fu t.1 t.2) e68) (noP))
theorem t35_ok (fu : Nat) : CpOK Tryz.prog (t35 fu ) := orE_ok (orE_ok (noP_ok) (mkC_ok (fun t b h => ok68 fu t.1 t.2  b h))) (mkC_ok (fun t b h => ok67 fu t  b h))
theorem ok35 (fu : Nat) (x1 : T_infer_ask) (r) (h : infer_ask_complete fu x1 = some r) : PureOK Tryz.prog 35 [.agg (c_T_infer_ask x1)] (e35 r) :=
  pure_J mixed (cp := t35 fu ) (t35_ok fu  ) noI_ok i35 (w35 _ fu x1  (fun a0 r h => orE_hit (mkC_at (a := a0) (by intro a b h; first | (exact rfl) | (simp only [INJ, IJ] at h; first | exact h | (simp_all [Prod.ext_iff]) )) h)) (fun a0 a1 r h => orE_miss (by decide) (orE_hit (mkC_at (a := (a0, a1)) (by intro a b h; first | (exact rfl) | (simp only [INJ, IJ] at h; first | exact h | (simp_all [Prod.ext_iff]) )) h)))) h
/-! 116: lattice/infer.sorts -/
open Aw (d116)
def d116_at := by have h := tabL Aw.d116.eq_1; simp only [AllAt, Nat.zero_add, Nat.reduceAdd] at h; exact h
theorem i116 : finfo Tryz.prog 116 d116 = some ⟨bodyOf Tryz.f116, [.tmp 2], [9]⟩ := finfo_at Tryz.func116 rfl (by kernel_rfl) (by kernel_rfl)
def e116 : ByteArray → AV := fun r => .v (.string r)
set_option maxHeartbeats 20000000 in
theorem w116 (cp : CallP) (fu : Nat) (x1 : Int) : J (go Tryz.prog noC cp noI 0 [] d116 fu (fin Tryz.prog [.tmp 2] [9]) (bodyOf Tryz.f116) (initE 0 [.v (.int .i64 x1)]) [] []) (infer_sorts fu x1) e116 := by
 unfold infer_sorts e116
 have da := d116_at
 refine J.spl (fun h1 => ?_) (fun h1 => ?_)
 ·conv => arg 1; simp (disch := first | exact Zd | fail) only [bodyOf, Tryz.f116, ZZ, d116_at, simprocAttr, h1]
  refine J.eq go_seq ?_
  refine Jc ?_
  refine J.joinS (fun (t : Unit) => ([(3, .v (.int .i64 63)), (4, .v (.bool (decide ((63 : Int) = 71))))], [])) (fun t => infer_sorts.k1 fu) ?_ (fun hj1 => ?_)
  ·rintro ⟨⟩
   show J _ (infer_sorts.k1 fu) _
   unfold infer_sorts.k1
   refine Jc ?_
   refine J.joinS (fun (t : Unit) => ([(3, .v (.int .i64 63)), (4, .v (.bool (decide ((63 : Int) = 71)))), (13, .v (.bool (decide ((63 : Int) = 25))))], [])) (fun t => infer_sorts.k2 fu) ?_ (fun hj2 => ?_)
   ·rintro ⟨⟩
    show J _ (infer_sorts.k2 fu) _
    unfold infer_sorts.k2
    refine Jc ?_
    refine J.joinS (fun (t : Unit) => ([(3, .v (.int .i64 63)), (4, .v (.bool (decide ((63 : Int) = 71)))), (13, .v (.bool (decide ((63 : Int) = 25)))), (18, .v (.bool (decide ((63 : Int) = 43))))], [])) (fun t => infer_sorts.k3 fu) ?_ (fun hj3 => ?_)
    ·rintro ⟨⟩
     show J _ (infer_sorts.k3 fu) _
     unfold infer_sorts.k3
     refine Jc ?_
     refine J.eq go_seq ?_
     refine Jc ?_
     refine J.eq ret_seq ?_
     refine Jc ?_
     refine J.joinS (fun (t : Unit) => ([(3, .v (.int .i64 63)), (4, .v (.bool (decide ((63 : Int) = 71)))), (13, .v (.bool (decide ((63 : Int) = 25)))), (18, .v (.bool (decide ((63 : Int) = 43)))), (31, .v (.bool (decide ((63 : Int) = 47)))), (36, .v (.bool (decide ((63 : Int) = 63))))], [])) (fun t => infer_sorts.k4 fu) ?_ (fun hj4 => ?_)
     ·rintro ⟨⟩
      show J _ (infer_sorts.k4 fu) _
      unfold infer_sorts.k4
      refine J.some ?_
      exact Js
     ·refine J.hd jn_at ?_
      refine Jc ?_
      refine J.jmp (t := ()) hj4 ?_ ?_
      ·exact Ze
      ·exact Zh
    ·refine J.hd jn_at ?_
     refine Jc ?_
     refine J.jmp (t := ()) hj3 ?_ ?_
     ·exact Ze
     ·exact Zh
   ·refine J.hd jn_at ?_
    refine Jc ?_
    refine J.jmp (t := ()) hj2 ?_ ?_
    ·exact Ze
    ·exact Zh
  ·refine J.hd jn_at ?_
   refine Jc ?_
   refine J.jmp (t := ()) hj1 ?_ ?_
   ·exact Ze
   ·exact Zh
 ·refine J.chk fun h2 => ?_
  conv => arg 1; simp (disch := first | exact Zd | fail) only [bodyOf, Tryz.f116, ZZ, d116_at, simprocAttr, h2]
  refine J.eq go_seq ?_
  refine Jc ?_
  refine J.joinS (fun (t : Unit) => ([(3, .v (.int .i64 64)), (4, .v (.bool (decide ((64 : Int) = 71))))], [])) (fun t => infer_sorts.k5 fu) ?_ (fun hj5 => ?_)
  ·rintro ⟨⟩
   show J _ (infer_sorts.k5 fu) _
   unfold infer_sorts.k5
   refine Jc ?_
   refine J.joinS (fun (t : Unit) => ([(3, .v (.int .i64 64)), (4, .v (.bool (decide ((64 : Int) = 71)))), (13, .v (.bool (decide ((64 : Int) = 25))))], [])) (fun t => infer_sorts.k6 fu) ?_ (fun hj6 => ?_)
   ·rintro ⟨⟩
    show J _ (infer_sorts.k6 fu) _
    unfold infer_sorts.k6
    refine Jc ?_
    refine J.joinS (fun (t : Unit) => ([(3, .v (.int .i64 64)), (4, .v (.bool (decide ((64 : Int) = 71)))), (13, .v (.bool (decide ((64 : Int) = 25)))), (18, .v (.bool (decide ((64 : Int) = 43))))], [])) (fun t => infer_sorts.k7 fu) ?_ (fun hj7 => ?_)
    ·rintro ⟨⟩
     show J _ (infer_sorts.k7 fu) _
     unfold infer_sorts.k7
     refine Jc ?_
     refine J.eq go_seq ?_
     refine Jc ?_
     refine J.eq ret_seq ?_
     refine Jc ?_
     refine J.joinS (fun (t : Unit) => ([(3, .v (.int .i64 64)), (4, .v (.bool (decide ((64 : Int) = 71)))), (13, .v (.bool (decide ((64 : Int) = 25)))), (18, .v (.bool (decide ((64 : Int) = 43)))), (31, .v (.bool (decide ((64 : Int) = 47)))), (36, .v (.bool (decide ((64 : Int) = 64))))], [])) (fun t => infer_sorts.k8 fu) ?_ (fun hj8 => ?_)
     ·rintro ⟨⟩
      show J _ (infer_sorts.k8 fu) _
      unfold infer_sorts.k8
      refine J.some ?_
      exact Js
     ·refine J.hd jn_at ?_
      refine Jc ?_
      refine J.jmp (t := ()) hj8 ?_ ?_
      ·exact Ze
      ·exact Zh
    ·refine J.hd jn_at ?_
     refine Jc ?_
     refine J.jmp (t := ()) hj7 ?_ ?_
     ·exact Ze
     ·exact Zh
   ·refine J.hd jn_at ?_
    refine Jc ?_
    refine J.jmp (t := ()) hj6 ?_ ?_
    ·exact Ze
    ·exact Zh
  ·refine J.hd jn_at ?_
   refine Jc ?_
   refine J.jmp (t := ()) hj5 ?_ ?_
   ·exact Ze
   ·exact Zh
noncomputable def t116 (fu : Nat) : CallP := noP
theorem t116_ok (fu : Nat) : CpOK Tryz.prog (t116 fu ) := noP_ok
theorem ok116 (fu : Nat) (x1 : Int) (r) (h : infer_sorts fu x1 = some r) : PureOK Tryz.prog 116 [.v (.int .i64 x1)] (e116 r) :=
  pure_J mixed (cp := t116 fu ) (t116_ok fu  ) noI_ok i116 (w116 _ fu x1  ) h
/-! 117: (lattice/infer.ask).fits -/
open Aw (d117)
def d117_at := by have h := tabL Aw.d117.eq_1; simp only [AllAt, Nat.zero_add, Nat.reduceAdd] at h; exact h
theorem i117 : finfo Tryz.prog 117 d117 = some ⟨bodyOf Tryz.f117, [.tmp 6], [4]⟩ := finfo_at Tryz.func117 rfl (by kernel_rfl) (by kernel_rfl)
def e117 : Bool → AV := fun r => .v (.bool r)
set_option maxHeartbeats 20000000 in
theorem w117 (cp : CallP) (fu : Nat) (x1 : T_infer_ask) (x2 : Int) (x3 : Int) (H84_0 : ∀ (a0 : T_infer_ask) (a1 : Int) r, infer_ask_val fu a0 a1 = some r → cp 84 [.agg (c_T_infer_ask a0), .v (.int .i64 a1)] = some (.agg [.v (.int .i64 r.fType), .arr r.fDims.length (lm (ik .i64) r.fDims), .v (.bool r.fConst), .v (.int .i64 r.fT.fType), .arr r.fT.fDims.length (lm (ik .i64) r.fT.fDims), .arr r.fT.fF.length (lm (ik .u32) r.fT.fF), .arr r.fT.fI.length (lm (ik .i64) r.fT.fI), .arr r.fT.fB.length (lm (bk) r.fT.fB)])) (H57_0 : ∀ (a0 : Int) r, tens_Width fu a0 = some r → cp 57 [.v (.int .i64 a0)] = some (.v (.int .i64 r))) : J (go Tryz.prog noC cp noI 0 [] d117 fu (fin Tryz.prog [.tmp 6] [4]) (bodyOf Tryz.f117) (initE 0 [.agg (c_T_infer_ask x1), .v (.int .i64 x2), .v (.int .u8 x3)]) [] []) (infer_ask_fits fu x1 x2 x3) e117 := by
 unfold infer_ask_fits e117
 refine J.spl (fun h1 => ?_) (fun h1 => ?_)
 ·refine J.bind fun x4 h2 => ?_
  have e_h2 := H84_0 _ _ _ h2
  try simp only [NN, NT, LN, simprocAttr, DT] at e_h2
  conv => arg 1; simp (disch := first | exact Zd | fail) only [bodyOf, Tryz.f117, ZZ, d117_at, simprocAttr, h1, e_h2]
  refine J.eq go_seq ?_
  conv => arg 1; simp (disch := first | exact Zd | fail) only [ZZ, d117_at, simprocAttr, h1, e_h2]
  refine J.ite (fun h3 => ?_) (fun h3 => ?_)
  ·have h3' := decide_eq_true h3
   conv => arg 1; simp (disch := first | exact Zd | fail) only [ZZ, d117_at, simprocAttr, h1, e_h2, h3']
   refine J.joinS (fun (t : Bool) => ([(1, .v (.int .i64 x2)), (3, .ptr (0, 3, 0) 0 0), (6, .v (.bool t)), (7, .v (.int .i64 x4.fType)), (12, .v (.int .u8 x3))], [((0, 3, 0), .bx true ([.v (.int .i64 63), .v (.int .i64 x1.fs.fAxis), .arr x1.fs.fAxes.length (lm (ik .i64) x1.fs.fAxes), .v (.bool x1.fs.fHasAxes), .v (.bool x1.fs.fKeep), .v (.bool x1.fs.fNoop), .v (.bool x1.fs.fLast), .v (.bool x1.fs.fZero), .arr x1.fs.fPerm.length (lm (ik .i64) x1.fs.fPerm), .v (.bool x1.fs.fHasPerm), .v (.int .u32 x1.fs.fAlpha), .v (.int .u32 x1.fs.fBeta), .v (.int .u32 x1.fs.fEpsilon), .v (.bool x1.fs.fLow), .v (.bool x1.fs.fHigh), .v (.bool x1.fs.fFmod), .v (.int .i64 x1.fs.fTo), .v (.int .i64 x1.fs.fMode), .v (.bool x1.fs.fTransA), .v (.bool x1.fs.fTransB), .v (.int .i64 x1.fs.fGroup), .arr x1.fs.fKernel.length (lm (ik .i64) x1.fs.fKernel), .arr x1.fs.fStrides.length (lm (ik .i64) x1.fs.fStrides), .arr x1.fs.fPads.length (lm (ik .i64) x1.fs.fPads), .arr x1.fs.fDilations.length (lm (ik .i64) x1.fs.fDilations), .v (.int .i64 x1.fs.fAuto), .v (.bool x1.fs.fCeil), .v (.bool x1.fs.fCount), .v (.int .i64 x1.fs.fBlock), .v (.int .i64 x1.fs.fStart), .v (.int .i64 x1.fs.fEnd), .v (.bool x1.fs.fHasEnd), .v (.int .i64 x1.fs.fValue.fType), .arr x1.fs.fValue.fDims.length (lm (ik .i64) x1.fs.fValue.fDims), .arr x1.fs.fValue.fF.length (lm (ik .u32) x1.fs.fValue.fF), .arr x1.fs.fValue.fI.length (lm (ik .i64) x1.fs.fValue.fI), .arr x1.fs.fValue.fB.length (lm (bk) x1.fs.fValue.fB), .arr x1.fin.length (fm c_T_Val x1.fin), .v (.int .i64 x1.fouts)]))])) (fun t => infer_ask_fits.k1 fu t) ?_ (fun hj1 => ?_)
   ·rintro x5
    show J _ (infer_ask_fits.k1 fu x5) _
    unfold infer_ask_fits.k1
    refine J.some ?_
    simp (maxSteps := 20000000) (disch := first | exact Zd | fail) only [ZZ, d117_at, simprocAttr, h1, e_h2, h3', FN]
   ·refine J.hd jn_at ?_
    conv => arg 1; simp (disch := first | exact Zd | fail) only [ZZ, d117_at, simprocAttr, h1, e_h2, h3']
    refine J.ite (fun h4 => ?_) (fun h4 => ?_)
    ·have h4' := decide_eq_true h4
     conv => arg 1; simp (disch := first | exact Zd | fail) only [ZZ, d117_at, simprocAttr, h1, e_h2, h3', h4']
     refine J.jmp (t := true) hj1 ?_ ?_
     ·exact Ze
     ·exact Zh
    ·have h4' := decide_eq_false h4
     conv => arg 1; simp (disch := first | exact Zd | fail) only [ZZ, d117_at, simprocAttr, h1, e_h2, h3', h4']
     refine J.jmp (t := decide (x4.fType = 7)) hj1 ?_ ?_
     ·exact Ze
     ·exact Zh
  ·have h3' := decide_eq_false h3
   conv => arg 1; simp (disch := first | exact Zd | fail) only [ZZ, d117_at, simprocAttr, h1, e_h2, h3']
   refine J.ite (fun h5 => ?_) (fun h5 => ?_)
   ·have h5' := decide_eq_true h5
    refine J.some ?_
    simp (maxSteps := 20000000) (disch := first | exact Zd | fail) only [ZZ, d117_at, simprocAttr, h1, e_h2, h3', h5', FN]
   ·have h5' := decide_eq_false h5
    conv => arg 1; simp (disch := first | exact Zd | fail) only [ZZ, d117_at, simprocAttr, h1, e_h2, h3', h5']
    refine J.ite (fun h6 => ?_) (fun h6 => ?_)
    ·have h6' := decide_eq_true h6
     refine J.some ?_
     simp (maxSteps := 20000000) (disch := first | exact Zd | fail) only [ZZ, d117_at, simprocAttr, h1, e_h2, h3', h5', h6', FN]
    ·have h6' := decide_eq_false h6
     conv => arg 1; simp (disch := first | exact Zd | fail) only [ZZ, d117_at, simprocAttr, h1, e_h2, h3', h5', h6']
     refine J.ite (fun h7 => ?_) (fun h7 => ?_)
     ·have h7' := decide_eq_true h7
      refine J.some ?_
      simp (maxSteps := 20000000) (disch := first | exact Zd | fail) only [ZZ, d117_at, simprocAttr, h1, e_h2, h3', h5', h6', h7', FN]
     ·have h7' := decide_eq_false h7
      conv => arg 1; simp (disch := first | exact Zd | fail) only [ZZ, d117_at, simprocAttr, h1, e_h2, h3', h5', h6', h7']
      refine J.ite (fun h8 => ?_) (fun h8 => ?_)
      ·have h8' := decide_eq_true h8
       refine J.bind fun x6 h9 => ?_
       have e_h9 := H84_0 _ _ _ h9
       try simp only [NN, NT, LN, simprocAttr, DT] at e_h9
       refine J.some ?_
       simp (maxSteps := 20000000) (disch := first | exact Zd | fail) only [ZZ, d117_at, simprocAttr, h1, e_h2, h3', h5', h6', h7', h8', e_h9, FN]
      ·have h8' := decide_eq_false h8
       conv => arg 1; simp (disch := first | exact Zd | fail) only [ZZ, d117_at, simprocAttr, h1, e_h2, h3', h5', h6', h7', h8']
       refine J.ite (fun h10 => ?_) (fun h10 => ?_)
       ·have h10' := decide_eq_true h10
        refine J.bind fun x7 h11 => ?_
        have e_h11 := H84_0 _ _ _ h11
        try simp only [NN, NT, LN, simprocAttr, DT] at e_h11
        refine J.some ?_
        simp (maxSteps := 20000000) (disch := first | exact Zd | fail) only [ZZ, d117_at, simprocAttr, h1, e_h2, h3', h5', h6', h7', h8', h10', e_h11, FN]
       ·have h10' := decide_eq_false h10
        conv => arg 1; simp (disch := first | exact Zd | fail) only [ZZ, d117_at, simprocAttr, h1, e_h2, h3', h5', h6', h7', h8', h10']
        refine J.eq ret_seq ?_
        refine J.bind fun x8 h12 => ?_
        have e_h12 := H57_0 _ _ h12
        try simp only [NN, NT, LN, simprocAttr, DT] at e_h12
        refine J.some ?_
        simp (maxSteps := 20000000) (disch := first | exact Zd | fail) only [ZZ, d117_at, simprocAttr, h1, e_h2, h3', h5', h6', h7', h8', h10', e_h12, FN]
 ·refine J.chk fun h13 => ?_
  refine J.bind fun x9 h14 => ?_
  have e_h14 := H84_0 _ _ _ h14
  try simp only [NN, NT, LN, simprocAttr, DT] at e_h14
  conv => arg 1; simp (disch := first | exact Zd | fail) only [bodyOf, Tryz.f117, ZZ, d117_at, simprocAttr, h13, e_h14]
  refine J.eq go_seq ?_
  conv => arg 1; simp (disch := first | exact Zd | fail) only [ZZ, d117_at, simprocAttr, h13, e_h14]
  refine J.ite (fun h15 => ?_) (fun h15 => ?_)
  ·have h15' := decide_eq_true h15
   conv => arg 1; simp (disch := first | exact Zd | fail) only [ZZ, d117_at, simprocAttr, h13, e_h14, h15']
   refine J.joinS (fun (t : Bool) => ([(1, .v (.int .i64 x2)), (3, .ptr (0, 3, 0) 0 0), (6, .v (.bool t)), (7, .v (.int .i64 x9.fType)), (12, .v (.int .u8 x3))], [((0, 3, 0), .bx true ([.v (.int .i64 64), .v (.int .i64 x1.fs.fAxis), .arr x1.fs.fAxes.length (lm (ik .i64) x1.fs.fAxes), .v (.bool x1.fs.fHasAxes), .v (.bool x1.fs.fKeep), .v (.bool x1.fs.fNoop), .v (.bool x1.fs.fLast), .v (.bool x1.fs.fZero), .arr x1.fs.fPerm.length (lm (ik .i64) x1.fs.fPerm), .v (.bool x1.fs.fHasPerm), .v (.int .u32 x1.fs.fAlpha), .v (.int .u32 x1.fs.fBeta), .v (.int .u32 x1.fs.fEpsilon), .v (.bool x1.fs.fLow), .v (.bool x1.fs.fHigh), .v (.bool x1.fs.fFmod), .v (.int .i64 x1.fs.fTo), .v (.int .i64 x1.fs.fMode), .v (.bool x1.fs.fTransA), .v (.bool x1.fs.fTransB), .v (.int .i64 x1.fs.fGroup), .arr x1.fs.fKernel.length (lm (ik .i64) x1.fs.fKernel), .arr x1.fs.fStrides.length (lm (ik .i64) x1.fs.fStrides), .arr x1.fs.fPads.length (lm (ik .i64) x1.fs.fPads), .arr x1.fs.fDilations.length (lm (ik .i64) x1.fs.fDilations), .v (.int .i64 x1.fs.fAuto), .v (.bool x1.fs.fCeil), .v (.bool x1.fs.fCount), .v (.int .i64 x1.fs.fBlock), .v (.int .i64 x1.fs.fStart), .v (.int .i64 x1.fs.fEnd), .v (.bool x1.fs.fHasEnd), .v (.int .i64 x1.fs.fValue.fType), .arr x1.fs.fValue.fDims.length (lm (ik .i64) x1.fs.fValue.fDims), .arr x1.fs.fValue.fF.length (lm (ik .u32) x1.fs.fValue.fF), .arr x1.fs.fValue.fI.length (lm (ik .i64) x1.fs.fValue.fI), .arr x1.fs.fValue.fB.length (lm (bk) x1.fs.fValue.fB), .arr x1.fin.length (fm c_T_Val x1.fin), .v (.int .i64 x1.fouts)]))])) (fun t => infer_ask_fits.k2 fu t) ?_ (fun hj2 => ?_)
   ·rintro x10
    show J _ (infer_ask_fits.k2 fu x10) _
    unfold infer_ask_fits.k2
    refine J.some ?_
    simp (maxSteps := 20000000) (disch := first | exact Zd | fail) only [ZZ, d117_at, simprocAttr, h13, e_h14, h15', FN]
   ·refine J.hd jn_at ?_
    conv => arg 1; simp (disch := first | exact Zd | fail) only [ZZ, d117_at, simprocAttr, h13, e_h14, h15']
    refine J.ite (fun h16 => ?_) (fun h16 => ?_)
    ·have h16' := decide_eq_true h16
     conv => arg 1; simp (disch := first | exact Zd | fail) only [ZZ, d117_at, simprocAttr, h13, e_h14, h15', h16']
     refine J.jmp (t := true) hj2 ?_ ?_
     ·exact Ze
     ·exact Zh
    ·have h16' := decide_eq_false h16
     conv => arg 1; simp (disch := first | exact Zd | fail) only [ZZ, d117_at, simprocAttr, h13, e_h14, h15', h16']
     refine J.jmp (t := decide (x9.fType = 7)) hj2 ?_ ?_
     ·exact Ze
     ·exact Zh
  ·have h15' := decide_eq_false h15
   conv => arg 1; simp (disch := first | exact Zd | fail) only [ZZ, d117_at, simprocAttr, h13, e_h14, h15']
   refine J.ite (fun h17 => ?_) (fun h17 => ?_)
   ·have h17' := decide_eq_true h17
    refine J.some ?_
    simp (maxSteps := 20000000) (disch := first | exact Zd | fail) only [ZZ, d117_at, simprocAttr, h13, e_h14, h15', h17', FN]
   ·have h17' := decide_eq_false h17
    conv => arg 1; simp (disch := first | exact Zd | fail) only [ZZ, d117_at, simprocAttr, h13, e_h14, h15', h17']
    refine J.ite (fun h18 => ?_) (fun h18 => ?_)
    ·have h18' := decide_eq_true h18
     refine J.some ?_
     simp (maxSteps := 20000000) (disch := first | exact Zd | fail) only [ZZ, d117_at, simprocAttr, h13, e_h14, h15', h17', h18', FN]
    ·have h18' := decide_eq_false h18
     conv => arg 1; simp (disch := first | exact Zd | fail) only [ZZ, d117_at, simprocAttr, h13, e_h14, h15', h17', h18']
     refine J.ite (fun h19 => ?_) (fun h19 => ?_)
     ·have h19' := decide_eq_true h19
      refine J.some ?_
      simp (maxSteps := 20000000) (disch := first | exact Zd | fail) only [ZZ, d117_at, simprocAttr, h13, e_h14, h15', h17', h18', h19', FN]
     ·have h19' := decide_eq_false h19
      conv => arg 1; simp (disch := first | exact Zd | fail) only [ZZ, d117_at, simprocAttr, h13, e_h14, h15', h17', h18', h19']
      refine J.ite (fun h20 => ?_) (fun h20 => ?_)
      ·have h20' := decide_eq_true h20
       refine J.bind fun x11 h21 => ?_
       have e_h21 := H84_0 _ _ _ h21
       try simp only [NN, NT, LN, simprocAttr, DT] at e_h21
       refine J.some ?_
       simp (maxSteps := 20000000) (disch := first | exact Zd | fail) only [ZZ, d117_at, simprocAttr, h13, e_h14, h15', h17', h18', h19', h20', e_h21, FN]
      ·have h20' := decide_eq_false h20
       conv => arg 1; simp (disch := first | exact Zd | fail) only [ZZ, d117_at, simprocAttr, h13, e_h14, h15', h17', h18', h19', h20']
       refine J.ite (fun h22 => ?_) (fun h22 => ?_)
       ·have h22' := decide_eq_true h22
        refine J.bind fun x12 h23 => ?_
        have e_h23 := H84_0 _ _ _ h23
        try simp only [NN, NT, LN, simprocAttr, DT] at e_h23
        refine J.some ?_
        simp (maxSteps := 20000000) (disch := first | exact Zd | fail) only [ZZ, d117_at, simprocAttr, h13, e_h14, h15', h17', h18', h19', h20', h22', e_h23, FN]
       ·have h22' := decide_eq_false h22
        conv => arg 1; simp (disch := first | exact Zd | fail) only [ZZ, d117_at, simprocAttr, h13, e_h14, h15', h17', h18', h19', h20', h22']
        refine J.eq ret_seq ?_
        refine J.bind fun x13 h24 => ?_
        have e_h24 := H57_0 _ _ h24
        try simp only [NN, NT, LN, simprocAttr, DT] at e_h24
        refine J.some ?_
        simp (maxSteps := 20000000) (disch := first | exact Zd | fail) only [ZZ, d117_at, simprocAttr, h13, e_h14, h15', h17', h18', h19', h20', h22', e_h24, FN]
noncomputable def t117 (fu : Nat) : CallP := orE 84 (mkC (fun (t : T_infer_ask × Int) => ([.agg (c_T_infer_ask t.1), .v (.int .i64 t.2)] : List AV)) (fun t => infer_ask_val fu t.1 t.2) e84) (orE 57 (mkC (fun (t : Int) => ([.v (.int .i64 t)] : List AV)) (fun t => tens_Width fu t) e57) (noP))
theorem t117_ok (fu : Nat) : CpOK Tryz.prog (t117 fu ) := orE_ok (orE_ok (noP_ok) (mkC_ok (fun t b h => ok57 fu t  b h))) (mkC_ok (fun t b h => ok84 fu t.1 t.2  b h))
theorem ok117 (fu : Nat) (x1 : T_infer_ask) (x2 : Int) (x3 : Int) (r) (h : infer_ask_fits fu x1 x2 x3 = some r) : PureOK Tryz.prog 117 [.agg (c_T_infer_ask x1), .v (.int .i64 x2), .v (.int .u8 x3)] (e117 r) :=
  pure_J mixed (cp := t117 fu ) (t117_ok fu  ) noI_ok i117 (w117 _ fu x1 x2 x3  (fun a0 a1 r h => orE_hit (mkC_at (a := (a0, a1)) (by intro a b h; first | (exact rfl) | (simp only [INJ, IJ] at h; first | exact h | (simp_all [Prod.ext_iff]) )) h)) (fun a0 r h => orE_miss (by decide) (orE_hit (mkC_at (a := a0) (by intro a b h; first | (exact rfl) | (simp only [INJ, IJ] at h; first | exact h | (simp_all [Prod.ext_iff]) )) h)))) h
/-! 69: (lattice/infer.ask).typed -/
open Aw (d69)
def d69_at := by have h := tabL Aw.d69.eq_1; simp only [AllAt, Nat.zero_add, Nat.reduceAdd] at h; exact h
theorem i69 : finfo Tryz.prog 69 d69 = some ⟨bodyOf Tryz.f69, [.tmp 2], [4]⟩ := finfo_at Tryz.func69 rfl (by kernel_rfl) (by kernel_rfl)
def e69 : Bool → AV := fun r => .v (.bool r)
set_option maxHeartbeats 20000000 in
theorem w69 (cp : CallP) (fu : Nat) (x1 : T_infer_ask) (H116_0 : ∀ (a0 : Int) r, infer_sorts fu a0 = some r → cp 116 [.v (.int .i64 a0)] = some (.v (.string r))) (H68_0 : ∀ (a0 : T_infer_ask) (a1 : Int) r, infer_ask_has fu a0 a1 = some r → cp 68 [.agg (c_T_infer_ask a0), .v (.int .i64 a1)] = some (.v (.bool r))) (H84_0 : ∀ (a0 : T_infer_ask) (a1 : Int) r, infer_ask_val fu a0 a1 = some r → cp 84 [.agg (c_T_infer_ask a0), .v (.int .i64 a1)] = some (.agg [.v (.int .i64 r.fType), .arr r.fDims.length (lm (ik .i64) r.fDims), .v (.bool r.fConst), .v (.int .i64 r.fT.fType), .arr r.fT.fDims.length (lm (ik .i64) r.fT.fDims), .arr r.fT.fF.length (lm (ik .u32) r.fT.fF), .arr r.fT.fI.length (lm (ik .i64) r.fT.fI), .arr r.fT.fB.length (lm (bk) r.fT.fB)])) (H57_0 : ∀ (a0 : Int) r, tens_Width fu a0 = some r → cp 57 [.v (.int .i64 a0)] = some (.v (.int .i64 r))) (H117_0 : ∀ (a0 : T_infer_ask) (a1 : Int) (a2 : Int) r, infer_ask_fits fu a0 a1 a2 = some r → cp 117 [.agg (c_T_infer_ask a0), .v (.int .i64 a1), .v (.int .u8 a2)] = some (.v (.bool r))) : J (go Tryz.prog noC cp noI 0 [] d69 fu (fin Tryz.prog [.tmp 2] [4]) (bodyOf Tryz.f69) (initE 0 [.agg (c_T_infer_ask x1)]) [] []) (infer_ask_typed fu x1) e69 := by
 unfold infer_ask_typed e69
 have da := d69_at
 refine J.spl (fun h1 => ?_) (fun h1 => ?_)
 ·refine J.bind fun x2 h2 => ?_
  have e_h2 := H116_0 _ _ h2
  try simp only [NN, NT, LN, simprocAttr, DT] at e_h2
  conv => arg 1; simp (disch := first | exact Zd | fail) only [bodyOf, Tryz.f69, ZZ, d69_at, simprocAttr, h1, e_h2]
  refine J.joinS (fun (t : Unit) => ([(1, .ptr (0, 1, 0) 0 0)], [((0, 1, 0), .bx true ([.v (.int .i64 63), .v (.int .i64 x1.fs.fAxis), .arr x1.fs.fAxes.length (lm (ik .i64) x1.fs.fAxes), .v (.bool x1.fs.fHasAxes), .v (.bool x1.fs.fKeep), .v (.bool x1.fs.fNoop), .v (.bool x1.fs.fLast), .v (.bool x1.fs.fZero), .arr x1.fs.fPerm.length (lm (ik .i64) x1.fs.fPerm), .v (.bool x1.fs.fHasPerm), .v (.int .u32 x1.fs.fAlpha), .v (.int .u32 x1.fs.fBeta), .v (.int .u32 x1.fs.fEpsilon), .v (.bool x1.fs.fLow), .v (.bool x1.fs.fHigh), .v (.bool x1.fs.fFmod), .v (.int .i64 x1.fs.fTo), .v (.int .i64 x1.fs.fMode), .v (.bool x1.fs.fTransA), .v (.bool x1.fs.fTransB), .v (.int .i64 x1.fs.fGroup), .arr x1.fs.fKernel.length (lm (ik .i64) x1.fs.fKernel), .arr x1.fs.fStrides.length (lm (ik .i64) x1.fs.fStrides), .arr x1.fs.fPads.length (lm (ik .i64) x1.fs.fPads), .arr x1.fs.fDilations.length (lm (ik .i64) x1.fs.fDilations), .v (.int .i64 x1.fs.fAuto), .v (.bool x1.fs.fCeil), .v (.bool x1.fs.fCount), .v (.int .i64 x1.fs.fBlock), .v (.int .i64 x1.fs.fStart), .v (.int .i64 x1.fs.fEnd), .v (.bool x1.fs.fHasEnd), .v (.int .i64 x1.fs.fValue.fType), .arr x1.fs.fValue.fDims.length (lm (ik .i64) x1.fs.fValue.fDims), .arr x1.fs.fValue.fF.length (lm (ik .u32) x1.fs.fValue.fF), .arr x1.fs.fValue.fI.length (lm (ik .i64) x1.fs.fValue.fI), .arr x1.fs.fValue.fB.length (lm (bk) x1.fs.fValue.fB), .arr x1.fin.length (fm c_T_Val x1.fin), .v (.int .i64 x1.fouts)]))])) (fun t => infer_ask_typed.k1 fu) ?_ (fun hj1 => ?_)
  ·rintro ⟨⟩
   show J _ (infer_ask_typed.k1 fu) _
   unfold infer_ask_typed.k1
   refine J.eq go_seq ?_
   refine Jc ?_
   refine J.eq ret_seq ?_
   refine J.some ?_
   exact Js
  ·refine J.hd jn_at ?_
   refine Jc ?_
   unfold infer_ask_typed.W1
   refine J.loop (fun (s : Int) => ([(1, .ptr (0, 1, 0) 0 0), (3, .v (.string x2)), (10, .v (.int .i64 (x1.fin.length : Int))), (11, .v (.int .i64 s))], [((0, 1, 0), .bx true ([.v (.int .i64 63), .v (.int .i64 x1.fs.fAxis), .arr x1.fs.fAxes.length (lm (ik .i64) x1.fs.fAxes), .v (.bool x1.fs.fHasAxes), .v (.bool x1.fs.fKeep), .v (.bool x1.fs.fNoop), .v (.bool x1.fs.fLast), .v (.bool x1.fs.fZero), .arr x1.fs.fPerm.length (lm (ik .i64) x1.fs.fPerm), .v (.bool x1.fs.fHasPerm), .v (.int .u32 x1.fs.fAlpha), .v (.int .u32 x1.fs.fBeta), .v (.int .u32 x1.fs.fEpsilon), .v (.bool x1.fs.fLow), .v (.bool x1.fs.fHigh), .v (.bool x1.fs.fFmod), .v (.int .i64 x1.fs.fTo), .v (.int .i64 x1.fs.fMode), .v (.bool x1.fs.fTransA), .v (.bool x1.fs.fTransB), .v (.int .i64 x1.fs.fGroup), .arr x1.fs.fKernel.length (lm (ik .i64) x1.fs.fKernel), .arr x1.fs.fStrides.length (lm (ik .i64) x1.fs.fStrides), .arr x1.fs.fPads.length (lm (ik .i64) x1.fs.fPads), .arr x1.fs.fDilations.length (lm (ik .i64) x1.fs.fDilations), .v (.int .i64 x1.fs.fAuto), .v (.bool x1.fs.fCeil), .v (.bool x1.fs.fCount), .v (.int .i64 x1.fs.fBlock), .v (.int .i64 x1.fs.fStart), .v (.int .i64 x1.fs.fEnd), .v (.bool x1.fs.fHasEnd), .v (.int .i64 x1.fs.fValue.fType), .arr x1.fs.fValue.fDims.length (lm (ik .i64) x1.fs.fValue.fDims), .arr x1.fs.fValue.fF.length (lm (ik .u32) x1.fs.fValue.fF), .arr x1.fs.fValue.fI.length (lm (ik .i64) x1.fs.fValue.fI), .arr x1.fs.fValue.fB.length (lm (bk) x1.fs.fValue.fB), .arr x1.fin.length (fm c_T_Val x1.fin), .v (.int .i64 x1.fouts)]))])) (fun next s => infer_ask_typed.L1 fu x1 x2 next s) (s0 := 0) ?_ ?_ ?_
   ·exact Ze
   ·exact Zh
   rintro nx1 k1 hn1 x8
   show J _ (infer_ask_typed.L1 fu x1 x2 nx1 x8) _
   unfold infer_ask_typed.L1
   refine Jc ?_
   refine J.eq go_seq ?_
   refine Jc ?_
   refine J.ite (fun h3 => ?_) (fun h3 => ?_)
   ·have h3' := decide_eq_true h3
    have h3'' : decide ((x1.fin.length : Int) ≤ x8) = false := decide_eq_false (by omega)
    refine Jc ?_
    refine J.eq ret_seq ?_
    refine J.eq go_seq ?_
    refine Jc ?_
    refine J.eq go_seq ?_
    refine J.bind fun x14 h4 => ?_
    have e_h4 := H68_0 _ _ _ h4
    try simp only [NN, NT, LN, simprocAttr, DT] at e_h4
    refine Jc ?_
    refine J.ite (fun h5 => ?_) (fun h5 => ?_)
    ·have h5' : x14 = true := h5
     refine J.bind fun x15 h6 => ?_
     have e_h6 := H84_0 _ _ _ h6
     try simp only [NN, NT, LN, simprocAttr, DT] at e_h6
     refine J.bind fun x16 h7 => ?_
     have e_h7 := H57_0 _ _ h7
     try simp only [NN, NT, LN, simprocAttr, DT] at e_h7
     refine Jc ?_
     refine J.ite (fun h8 => ?_) (fun h8 => ?_)
     ·have h8' := decide_eq_true h8
      refine Jc ?_
      refine J.eq ret_seq ?_
      refine J.some ?_
      exact Js
     ·have h8' := decide_eq_false h8
      refine J.sat fun x17 h9 => ?_
      refine J.bind fun x18 h10 => ?_
      have e_h10 := H117_0 _ _ _ _ h10
      try simp only [NN, NT, LN, simprocAttr, DT] at e_h10
      refine Jc ?_
      refine J.eq ret_seq ?_
      refine Jc ?_
      refine J.ite (fun h11 => ?_) (fun h11 => ?_)
      ·have h11' : x18 = true := h11
       refine Jc ?_
       refine J.eq ret_seq ?_
       refine Jc ?_
       refine J.next (s := wk .i64 (x8 + 1)) hn1 ?_ ?_
       ·exact Ze
       ·exact Zh
      ·have h11' : x18 = false := Bool.eq_false_iff.2 h11
       refine J.some ?_
       exact Js
    ·have h5' : x14 = false := Bool.eq_false_iff.2 h5
     refine Jc ?_
     refine J.eq ret_seq ?_
     refine Jc ?_
     refine J.eq ret_seq ?_
     refine Jc ?_
     refine J.next (s := wk .i64 (x8 + 1)) hn1 ?_ ?_
     ·exact Ze
     ·exact Zh
   ·have h3' := decide_eq_false h3
    have h3'' : decide ((x1.fin.length : Int) ≤ x8) = true := decide_eq_true (by omega)
    refine Jc ?_
    refine J.jmp (t := ()) hj1 ?_ ?_
    ·exact Ze
    ·exact Zh
 ·refine J.chk fun h12 => ?_
  refine J.bind fun x19 h13 => ?_
  have e_h13 := H116_0 _ _ h13
  try simp only [NN, NT, LN, simprocAttr, DT] at e_h13
  conv => arg 1; simp (disch := first | exact Zd | fail) only [bodyOf, Tryz.f69, ZZ, d69_at, simprocAttr, h12, e_h13]
  refine J.joinS (fun (t : Unit) => ([(1, .ptr (0, 1, 0) 0 0)], [((0, 1, 0), .bx true ([.v (.int .i64 64), .v (.int .i64 x1.fs.fAxis), .arr x1.fs.fAxes.length (lm (ik .i64) x1.fs.fAxes), .v (.bool x1.fs.fHasAxes), .v (.bool x1.fs.fKeep), .v (.bool x1.fs.fNoop), .v (.bool x1.fs.fLast), .v (.bool x1.fs.fZero), .arr x1.fs.fPerm.length (lm (ik .i64) x1.fs.fPerm), .v (.bool x1.fs.fHasPerm), .v (.int .u32 x1.fs.fAlpha), .v (.int .u32 x1.fs.fBeta), .v (.int .u32 x1.fs.fEpsilon), .v (.bool x1.fs.fLow), .v (.bool x1.fs.fHigh), .v (.bool x1.fs.fFmod), .v (.int .i64 x1.fs.fTo), .v (.int .i64 x1.fs.fMode), .v (.bool x1.fs.fTransA), .v (.bool x1.fs.fTransB), .v (.int .i64 x1.fs.fGroup), .arr x1.fs.fKernel.length (lm (ik .i64) x1.fs.fKernel), .arr x1.fs.fStrides.length (lm (ik .i64) x1.fs.fStrides), .arr x1.fs.fPads.length (lm (ik .i64) x1.fs.fPads), .arr x1.fs.fDilations.length (lm (ik .i64) x1.fs.fDilations), .v (.int .i64 x1.fs.fAuto), .v (.bool x1.fs.fCeil), .v (.bool x1.fs.fCount), .v (.int .i64 x1.fs.fBlock), .v (.int .i64 x1.fs.fStart), .v (.int .i64 x1.fs.fEnd), .v (.bool x1.fs.fHasEnd), .v (.int .i64 x1.fs.fValue.fType), .arr x1.fs.fValue.fDims.length (lm (ik .i64) x1.fs.fValue.fDims), .arr x1.fs.fValue.fF.length (lm (ik .u32) x1.fs.fValue.fF), .arr x1.fs.fValue.fI.length (lm (ik .i64) x1.fs.fValue.fI), .arr x1.fs.fValue.fB.length (lm (bk) x1.fs.fValue.fB), .arr x1.fin.length (fm c_T_Val x1.fin), .v (.int .i64 x1.fouts)]))])) (fun t => infer_ask_typed.k2 fu) ?_ (fun hj2 => ?_)
  ·rintro ⟨⟩
   show J _ (infer_ask_typed.k2 fu) _
   unfold infer_ask_typed.k2
   refine J.eq go_seq ?_
   refine Jc ?_
   refine J.eq ret_seq ?_
   refine J.some ?_
   exact Js
  ·refine J.hd jn_at ?_
   refine Jc ?_
   unfold infer_ask_typed.W2
   refine J.loop (fun (s : Int) => ([(1, .ptr (0, 1, 0) 0 0), (3, .v (.string x19)), (10, .v (.int .i64 (x1.fin.length : Int))), (11, .v (.int .i64 s))], [((0, 1, 0), .bx true ([.v (.int .i64 64), .v (.int .i64 x1.fs.fAxis), .arr x1.fs.fAxes.length (lm (ik .i64) x1.fs.fAxes), .v (.bool x1.fs.fHasAxes), .v (.bool x1.fs.fKeep), .v (.bool x1.fs.fNoop), .v (.bool x1.fs.fLast), .v (.bool x1.fs.fZero), .arr x1.fs.fPerm.length (lm (ik .i64) x1.fs.fPerm), .v (.bool x1.fs.fHasPerm), .v (.int .u32 x1.fs.fAlpha), .v (.int .u32 x1.fs.fBeta), .v (.int .u32 x1.fs.fEpsilon), .v (.bool x1.fs.fLow), .v (.bool x1.fs.fHigh), .v (.bool x1.fs.fFmod), .v (.int .i64 x1.fs.fTo), .v (.int .i64 x1.fs.fMode), .v (.bool x1.fs.fTransA), .v (.bool x1.fs.fTransB), .v (.int .i64 x1.fs.fGroup), .arr x1.fs.fKernel.length (lm (ik .i64) x1.fs.fKernel), .arr x1.fs.fStrides.length (lm (ik .i64) x1.fs.fStrides), .arr x1.fs.fPads.length (lm (ik .i64) x1.fs.fPads), .arr x1.fs.fDilations.length (lm (ik .i64) x1.fs.fDilations), .v (.int .i64 x1.fs.fAuto), .v (.bool x1.fs.fCeil), .v (.bool x1.fs.fCount), .v (.int .i64 x1.fs.fBlock), .v (.int .i64 x1.fs.fStart), .v (.int .i64 x1.fs.fEnd), .v (.bool x1.fs.fHasEnd), .v (.int .i64 x1.fs.fValue.fType), .arr x1.fs.fValue.fDims.length (lm (ik .i64) x1.fs.fValue.fDims), .arr x1.fs.fValue.fF.length (lm (ik .u32) x1.fs.fValue.fF), .arr x1.fs.fValue.fI.length (lm (ik .i64) x1.fs.fValue.fI), .arr x1.fs.fValue.fB.length (lm (bk) x1.fs.fValue.fB), .arr x1.fin.length (fm c_T_Val x1.fin), .v (.int .i64 x1.fouts)]))])) (fun next s => infer_ask_typed.L2 fu x1 x19 next s) (s0 := 0) ?_ ?_ ?_
   ·exact Ze
   ·exact Zh
   rintro nx2 k2 hn2 x25
   show J _ (infer_ask_typed.L2 fu x1 x19 nx2 x25) _
   unfold infer_ask_typed.L2
   refine Jc ?_
   refine J.eq go_seq ?_
   refine Jc ?_
   refine J.ite (fun h14 => ?_) (fun h14 => ?_)
   ·have h14' := decide_eq_true h14
    have h14'' : decide ((x1.fin.length : Int) ≤ x25) = false := decide_eq_false (by omega)
    refine Jc ?_
    refine J.eq ret_seq ?_
    refine J.eq go_seq ?_
    refine Jc ?_
    refine J.eq go_seq ?_
    refine J.bind fun x31 h15 => ?_
    have e_h15 := H68_0 _ _ _ h15
    try simp only [NN, NT, LN, simprocAttr, DT] at e_h15
    refine Jc ?_
    refine J.ite (fun h16 => ?_) (fun h16 => ?_)
    ·have h16' : x31 = true := h16
     refine J.bind fun x32 h17 => ?_
     have e_h17 := H84_0 _ _ _ h17
     try simp only [NN, NT, LN, simprocAttr, DT] at e_h17
     refine J.bind fun x33 h18 => ?_
     have e_h18 := H57_0 _ _ h18
     try simp only [NN, NT, LN, simprocAttr, DT] at e_h18
     refine Jc ?_
     refine J.ite (fun h19 => ?_) (fun h19 => ?_)
     ·have h19' := decide_eq_true h19
      refine Jc ?_
      refine J.eq ret_seq ?_
      refine J.some ?_
      exact Js
     ·have h19' := decide_eq_false h19
      refine J.sat fun x34 h20 => ?_
      refine J.bind fun x35 h21 => ?_
      have e_h21 := H117_0 _ _ _ _ h21
      try simp only [NN, NT, LN, simprocAttr, DT] at e_h21
      refine Jc ?_
      refine J.eq ret_seq ?_
      refine Jc ?_
      refine J.ite (fun h22 => ?_) (fun h22 => ?_)
      ·have h22' : x35 = true := h22
       refine Jc ?_
       refine J.eq ret_seq ?_
       refine Jc ?_
       refine J.next (s := wk .i64 (x25 + 1)) hn2 ?_ ?_
       ·exact Ze
       ·exact Zh
      ·have h22' : x35 = false := Bool.eq_false_iff.2 h22
       refine J.some ?_
       exact Js
    ·have h16' : x31 = false := Bool.eq_false_iff.2 h16
     refine Jc ?_
     refine J.eq ret_seq ?_
     refine Jc ?_
     refine J.eq ret_seq ?_
     refine Jc ?_
     refine J.next (s := wk .i64 (x25 + 1)) hn2 ?_ ?_
     ·exact Ze
     ·exact Zh
   ·have h14' := decide_eq_false h14
    have h14'' : decide ((x1.fin.length : Int) ≤ x25) = true := decide_eq_true (by omega)
    refine Jc ?_
    refine J.jmp (t := ()) hj2 ?_ ?_
    ·exact Ze
    ·exact Zh
noncomputable def t69 (fu : Nat) : CallP := orE 116 (mkC (fun (t : Int) => ([.v (.int .i64 t)] : List AV)) (fun t => infer_sorts fu t) e116) (orE 68 (mkC (fun (t : T_infer_ask × Int) => ([.agg (c_T_infer_ask t.1), .v (.int .i64 t.2)] : List AV)) (fun t => infer_ask_has fu t.1 t.2) e68) (orE 84 (mkC (fun (t : T_infer_ask × Int) => ([.agg (c_T_infer_ask t.1), .v (.int .i64 t.2)] : List AV)) (fun t => infer_ask_val fu t.1 t.2) e84) (orE 57 (mkC (fun (t : Int) => ([.v (.int .i64 t)] : List AV)) (fun t => tens_Width fu t) e57) (orE 117 (mkC (fun (t : T_infer_ask × Int × Int) => ([.agg (c_T_infer_ask t.1), .v (.int .i64 t.2.1), .v (.int .u8 t.2.2)] : List AV)) (fun t => infer_ask_fits fu t.1 t.2.1 t.2.2) e117) (noP)))))
theorem t69_ok (fu : Nat) : CpOK Tryz.prog (t69 fu ) := orE_ok (orE_ok (orE_ok (orE_ok (orE_ok (noP_ok) (mkC_ok (fun t b h => ok117 fu t.1 t.2.1 t.2.2  b h))) (mkC_ok (fun t b h => ok57 fu t  b h))) (mkC_ok (fun t b h => ok84 fu t.1 t.2  b h))) (mkC_ok (fun t b h => ok68 fu t.1 t.2  b h))) (mkC_ok (fun t b h => ok116 fu t  b h))
theorem ok69 (fu : Nat) (x1 : T_infer_ask) (r) (h : infer_ask_typed fu x1 = some r) : PureOK Tryz.prog 69 [.agg (c_T_infer_ask x1)] (e69 r) :=
  pure_J mixed (cp := t69 fu ) (t69_ok fu  ) noI_ok i69 (w69 _ fu x1  (fun a0 r h => orE_hit (mkC_at (a := a0) (by intro a b h; first | (exact rfl) | (simp only [INJ, IJ] at h; first | exact h | (simp_all [Prod.ext_iff]) )) h)) (fun a0 a1 r h => orE_miss (by decide) (orE_hit (mkC_at (a := (a0, a1)) (by intro a b h; first | (exact rfl) | (simp only [INJ, IJ] at h; first | exact h | (simp_all [Prod.ext_iff]) )) h))) (fun a0 a1 r h => orE_miss (by decide) (orE_miss (by decide) (orE_hit (mkC_at (a := (a0, a1)) (by intro a b h; first | (exact rfl) | (simp only [INJ, IJ] at h; first | exact h | (simp_all [Prod.ext_iff]) )) h)))) (fun a0 r h => orE_miss (by decide) (orE_miss (by decide) (orE_miss (by decide) (orE_hit (mkC_at (a := a0) (by intro a b h; first | (exact rfl) | (simp only [INJ, IJ] at h; first | exact h | (simp_all [Prod.ext_iff]) )) h))))) (fun a0 a1 a2 r h => orE_miss (by decide) (orE_miss (by decide) (orE_miss (by decide) (orE_miss (by decide) (orE_hit (mkC_at (a := (a0, a1, a2)) (by intro a b h; first | (exact rfl) | (simp only [INJ, IJ] at h; first | exact h | (simp_all [Prod.ext_iff]) )) h))))))) h
/-! 72: (lattice/infer.ask).dims -/
open Aw (d72)
def d72_at := by have h := tabL Aw.d72.eq_1; simp only [AllAt, Nat.zero_add, Nat.reduceAdd] at h; exact h
theorem i72 : finfo Tryz.prog 72 d72 = some ⟨bodyOf Tryz.f72, [.tmp 4], [22]⟩ := finfo_at Tryz.func72 rfl (by kernel_rfl) (by kernel_rfl)
def e72 : (List Int) → AV := fun r => .arr r.length (lm (ik .i64) r)
set_option maxHeartbeats 20000000 in
theorem w72 (cp : CallP) (fu : Nat) (x1 : T_infer_ask) (x2 : Int) (H84_0 : ∀ (a0 : T_infer_ask) (a1 : Int) r, infer_ask_val fu a0 a1 = some r → cp 84 [.agg (c_T_infer_ask a0), .v (.int .i64 a1)] = some (.agg [.v (.int .i64 r.fType), .arr r.fDims.length (lm (ik .i64) r.fDims), .v (.bool r.fConst), .v (.int .i64 r.fT.fType), .arr r.fT.fDims.length (lm (ik .i64) r.fT.fDims), .arr r.fT.fF.length (lm (ik .u32) r.fT.fF), .arr r.fT.fI.length (lm (ik .i64) r.fT.fI), .arr r.fT.fB.length (lm (bk) r.fT.fB)])) : J (go Tryz.prog noC cp noI 0 [] d72 fu (fin Tryz.prog [.tmp 4] [22]) (bodyOf Tryz.f72) (initE 0 [.agg (c_T_infer_ask x1), .v (.int .i64 x2)]) [] []) (infer_ask_dims fu x1 x2) e72 := by
 unfold infer_ask_dims e72
 have da := d72_at
 refine J.spl (fun h1 => ?_) (fun h1 => ?_)
 ·refine J.bind fun x3 h2 => ?_
  have e_h2 := H84_0 _ _ _ h2
  try simp only [NN, NT, LN, simprocAttr, DT] at e_h2
  refine J.some ?_
  simp (maxSteps := 20000000) (disch := first | exact Zd | fail) only [bodyOf, Tryz.f72, ZZ, d72_at, simprocAttr, h1, e_h2, FN]
 ·refine J.chk fun h3 => ?_
  refine J.bind fun x4 h4 => ?_
  have e_h4 := H84_0 _ _ _ h4
  try simp only [NN, NT, LN, simprocAttr, DT] at e_h4
  refine J.some ?_
  simp (maxSteps := 20000000) (disch := first | exact Zd | fail) only [bodyOf, Tryz.f72, ZZ, d72_at, simprocAttr, h3, e_h4, FN]
noncomputable def t72 (fu : Nat) : CallP := orE 84 (mkC (fun (t : T_infer_ask × Int) => ([.agg (c_T_infer_ask t.1), .v (.int .i64 t.2)] : List AV)) (fun t => infer_ask_val fu t.1 t.2) e84) (noP)
theorem t72_ok (fu : Nat) : CpOK Tryz.prog (t72 fu ) := orE_ok (noP_ok) (mkC_ok (fun t b h => ok84 fu t.1 t.2  b h))
theorem ok72 (fu : Nat) (x1 : T_infer_ask) (x2 : Int) (r) (h : infer_ask_dims fu x1 x2 = some r) : PureOK Tryz.prog 72 [.agg (c_T_infer_ask x1), .v (.int .i64 x2)] (e72 r) :=
  pure_J mixed (cp := t72 fu ) (t72_ok fu  ) noI_ok i72 (w72 _ fu x1 x2  (fun a0 a1 r h => orE_hit (mkC_at (a := (a0, a1)) (by intro a b h; first | (exact rfl) | (simp only [INJ, IJ] at h; first | exact h | (simp_all [Prod.ext_iff]) )) h))) h
/-! 118: (lattice/infer.ask).rank -/
open Aw (d118)
def d118_at := by have h := tabL Aw.d118.eq_1; simp only [AllAt, Nat.zero_add, Nat.reduceAdd] at h; exact h
theorem i118 : finfo Tryz.prog 118 d118 = some ⟨bodyOf Tryz.f118, [.tmp 2], [3]⟩ := finfo_at Tryz.func118 rfl (by kernel_rfl) (by kernel_rfl)
def e118 : Int → AV := fun r => .v (.int .i64 r)
set_option maxHeartbeats 20000000 in
theorem w118 (cp : CallP) (fu : Nat) (x1 : T_infer_ask) (H72_0 : ∀ (a0 : T_infer_ask) (a1 : Int) r, infer_ask_dims fu a0 a1 = some r → cp 72 [.agg (c_T_infer_ask a0), .v (.int .i64 a1)] = some (.arr r.length (lm (ik .i64) r))) : J (go Tryz.prog noC cp noI 0 [] d118 fu (fin Tryz.prog [.tmp 2] [3]) (bodyOf Tryz.f118) (initE 0 [.agg (c_T_infer_ask x1)]) [] []) (infer_ask_rank fu x1) e118 := by
 unfold infer_ask_rank e118
 have da := d118_at
 refine J.spl (fun h1 => ?_) (fun h1 => ?_)
 ·refine J.bind fun x2 h2 => ?_
  have e_h2 := H72_0 _ _ _ h2
  try simp only [NN, NT, LN, simprocAttr, DT] at e_h2
  refine J.some ?_
  simp (maxSteps := 20000000) (disch := first | exact Zd | fail) only [bodyOf, Tryz.f118, ZZ, d118_at, simprocAttr, h1, e_h2, FN]
 ·refine J.chk fun h3 => ?_
  refine J.bind fun x3 h4 => ?_
  have e_h4 := H72_0 _ _ _ h4
  try simp only [NN, NT, LN, simprocAttr, DT] at e_h4
  refine J.some ?_
  simp (maxSteps := 20000000) (disch := first | exact Zd | fail) only [bodyOf, Tryz.f118, ZZ, d118_at, simprocAttr, h3, e_h4, FN]
noncomputable def t118 (fu : Nat) : CallP := orE 72 (mkC (fun (t : T_infer_ask × Int) => ([.agg (c_T_infer_ask t.1), .v (.int .i64 t.2)] : List AV)) (fun t => infer_ask_dims fu t.1 t.2) e72) (noP)
theorem t118_ok (fu : Nat) : CpOK Tryz.prog (t118 fu ) := orE_ok (noP_ok) (mkC_ok (fun t b h => ok72 fu t.1 t.2  b h))
theorem ok118 (fu : Nat) (x1 : T_infer_ask) (r) (h : infer_ask_rank fu x1 = some r) : PureOK Tryz.prog 118 [.agg (c_T_infer_ask x1)] (e118 r) :=
  pure_J mixed (cp := t118 fu ) (t118_ok fu  ) noI_ok i118 (w118 _ fu x1  (fun a0 a1 r h => orE_hit (mkC_at (a := (a0, a1)) (by intro a b h; first | (exact rfl) | (simp only [INJ, IJ] at h; first | exact h | (simp_all [Prod.ext_iff]) )) h))) h
/-! 70: (lattice/infer.ask).attributes -/
open Aw (d70)
def d70_at := by have h := tabL Aw.d70.eq_1; simp only [AllAt, Nat.zero_add, Nat.reduceAdd] at h; exact h
theorem i70 : finfo Tryz.prog 70 d70 = some ⟨bodyOf Tryz.f70, [.tmp 2], [4]⟩ := finfo_at Tryz.func70 rfl (by kernel_rfl) (by kernel_rfl)
def e70 : Bool → AV := fun r => .v (.bool r)
set_option maxHeartbeats 20000000 in
theorem w70 (cp : CallP) (fu : Nat) (x1 : T_infer_ask) (H118_0 : ∀ (a0 : T_infer_ask) r, infer_ask_rank fu a0 = some r → cp 118 [.agg (c_T_infer_ask a0)] = some (.v (.int .i64 r))) : J (go Tryz.prog noC cp noI 0 [] d70 fu (fin Tryz.prog [.tmp 2] [4]) (bodyOf Tryz.f70) (initE 0 [.agg (c_T_infer_ask x1)]) [] []) (infer_ask_attributes fu x1) e70 := by
 unfold infer_ask_attributes e70
 have da := d70_at
 refine J.spl (fun h1 => ?_) (fun h1 => ?_)
 ·refine J.bind fun x2 h2 => ?_
  have e_h2 := H118_0 _ _ h2
  try simp only [NN, NT, LN, simprocAttr, DT] at e_h2
  conv => arg 1; simp (disch := first | exact Zd | fail) only [bodyOf, Tryz.f70, ZZ, d70_at, simprocAttr, h1, e_h2]
  refine J.eq go_seq ?_
  refine Jc ?_
  refine J.eq go_seq ?_
  refine Jc ?_
  refine J.eq ret_seq ?_
  refine Jc ?_
  refine J.eq go_seq ?_
  refine Jc ?_
  refine J.ite (fun h3 => ?_) (fun h3 => ?_)
  ·have h3' := decide_eq_true h3
   have h3'' : decide (x1.fs.fBlock < 1) = false := decide_eq_false (by omega)
   refine Jc ?_
   refine J.eq ret_seq ?_
   refine J.some ?_
   exact Js
  ·have h3' := decide_eq_false h3
   have h3'' : decide (x1.fs.fBlock < 1) = true := decide_eq_true (by omega)
   refine Jc ?_
   refine J.eq ret_seq ?_
   refine J.some ?_
   exact Js
 ·refine J.chk fun h4 => ?_
  refine J.bind fun x3 h5 => ?_
  have e_h5 := H118_0 _ _ h5
  try simp only [NN, NT, LN, simprocAttr, DT] at e_h5
  conv => arg 1; simp (disch := first | exact Zd | fail) only [bodyOf, Tryz.f70, ZZ, d70_at, simprocAttr, h4, e_h5]
  refine J.eq go_seq ?_
  refine Jc ?_
  refine J.eq go_seq ?_
  refine Jc ?_
  refine J.eq ret_seq ?_
  refine Jc ?_
  refine J.eq go_seq ?_
  refine Jc ?_
  refine J.ite (fun h6 => ?_) (fun h6 => ?_)
  ·have h6' := decide_eq_true h6
   have h6'' : decide (x1.fs.fBlock < 1) = false := decide_eq_false (by omega)
   refine Jc ?_
   refine J.eq ret_seq ?_
   refine J.some ?_
   exact Js
  ·have h6' := decide_eq_false h6
   have h6'' : decide (x1.fs.fBlock < 1) = true := decide_eq_true (by omega)
   refine Jc ?_
   refine J.eq ret_seq ?_
   refine J.some ?_
   exact Js
noncomputable def t70 (fu : Nat) : CallP := orE 118 (mkC (fun (t : T_infer_ask) => ([.agg (c_T_infer_ask t)] : List AV)) (fun t => infer_ask_rank fu t) e118) (noP)
theorem t70_ok (fu : Nat) : CpOK Tryz.prog (t70 fu ) := orE_ok (noP_ok) (mkC_ok (fun t b h => ok118 fu t  b h))
theorem ok70 (fu : Nat) (x1 : T_infer_ask) (r) (h : infer_ask_attributes fu x1 = some r) : PureOK Tryz.prog 70 [.agg (c_T_infer_ask x1)] (e70 r) :=
  pure_J mixed (cp := t70 fu ) (t70_ok fu  ) noI_ok i70 (w70 _ fu x1  (fun a0 r h => orE_hit (mkC_at (a := a0) (by intro a b h; first | (exact rfl) | (simp only [INJ, IJ] at h; first | exact h | (simp_all [Prod.ext_iff]) )) h))) h
/-! 123: (lattice/infer.ask).lists -/
open Aw (d123)
def d123_at := by have h := tabL Aw.d123.eq_1; simp only [AllAt, Nat.zero_add, Nat.reduceAdd] at h; exact h
theorem i123 : finfo Tryz.prog 123 d123 = some ⟨bodyOf Tryz.f123, [.tmp 2], [53]⟩ := finfo_at Tryz.func123 rfl (by kernel_rfl) (by kernel_rfl)
def e123 : (List T_Val) → AV := fun r => .fresh 8 r.length (fm c_T_Val r)
set_option maxHeartbeats 20000000 in
theorem w123 (cp : CallP) (fu : Nat) (x1 : T_infer_ask) : J (go Tryz.prog noC cp noI 0 [] d123 fu (fin Tryz.prog [.tmp 2] [53]) (bodyOf Tryz.f123) (initE 0 [.agg (c_T_infer_ask x1)]) [] []) (infer_ask_lists fu x1) e123 := by
 unfold infer_ask_lists e123
 have da := d123_at
 refine J.spl (fun h1 => ?_) (fun h1 => ?_)
 ·conv => arg 1; simp (disch := first | exact Zd | fail) only [bodyOf, Tryz.f123, ZZ, d123_at, simprocAttr, h1]
  refine J.eq go_seq ?_
  refine Jc ?_
  refine J.joinS (fun (t : Unit) => ([(1, .ptr (0, 1, 0) 0 0), (3, .v (.int .i64 1)), (4, .v (.int .i64 2)), (8, .v (.int .i64 63)), (13, .v (.bool (decide ((63 : Int) = 65))))], [((0, 1, 0), .bx true ([.v (.int .i64 63), .v (.int .i64 x1.fs.fAxis), .arr x1.fs.fAxes.length (lm (ik .i64) x1.fs.fAxes), .v (.bool x1.fs.fHasAxes), .v (.bool x1.fs.fKeep), .v (.bool x1.fs.fNoop), .v (.bool x1.fs.fLast), .v (.bool x1.fs.fZero), .arr x1.fs.fPerm.length (lm (ik .i64) x1.fs.fPerm), .v (.bool x1.fs.fHasPerm), .v (.int .u32 x1.fs.fAlpha), .v (.int .u32 x1.fs.fBeta), .v (.int .u32 x1.fs.fEpsilon), .v (.bool x1.fs.fLow), .v (.bool x1.fs.fHigh), .v (.bool x1.fs.fFmod), .v (.int .i64 x1.fs.fTo), .v (.int .i64 x1.fs.fMode), .v (.bool x1.fs.fTransA), .v (.bool x1.fs.fTransB), .v (.int .i64 x1.fs.fGroup), .arr x1.fs.fKernel.length (lm (ik .i64) x1.fs.fKernel), .arr x1.fs.fStrides.length (lm (ik .i64) x1.fs.fStrides), .arr x1.fs.fPads.length (lm (ik .i64) x1.fs.fPads), .arr x1.fs.fDilations.length (lm (ik .i64) x1.fs.fDilations), .v (.int .i64 x1.fs.fAuto), .v (.bool x1.fs.fCeil), .v (.bool x1.fs.fCount), .v (.int .i64 x1.fs.fBlock), .v (.int .i64 x1.fs.fStart), .v (.int .i64 x1.fs.fEnd), .v (.bool x1.fs.fHasEnd), .v (.int .i64 x1.fs.fValue.fType), .arr x1.fs.fValue.fDims.length (lm (ik .i64) x1.fs.fValue.fDims), .arr x1.fs.fValue.fF.length (lm (ik .u32) x1.fs.fValue.fF), .arr x1.fs.fValue.fI.length (lm (ik .i64) x1.fs.fValue.fI), .arr x1.fs.fValue.fB.length (lm (bk) x1.fs.fValue.fB), .arr x1.fin.length (fm c_T_Val x1.fin), .v (.int .i64 x1.fouts)]))])) (fun t => infer_ask_lists.k1 fu) ?_ (fun hj1 => ?_)
  ·rintro ⟨⟩
   show J _ (infer_ask_lists.k1 fu) _
   unfold infer_ask_lists.k1
   refine J.some ?_
   exact Js
  ·refine J.hd jn_at ?_
   refine Jc ?_
   refine J.jmp (t := ()) hj1 ?_ ?_
   ·exact Ze
   ·exact Zh
 ·refine J.chk fun h2 => ?_
  conv => arg 1; simp (disch := first | exact Zd | fail) only [bodyOf, Tryz.f123, ZZ, d123_at, simprocAttr, h2]
  refine J.eq go_seq ?_
  refine Jc ?_
  refine J.joinS (fun (t : Unit) => ([(1, .ptr (0, 1, 0) 0 0), (3, .v (.int .i64 1)), (4, .v (.int .i64 2)), (8, .v (.int .i64 64)), (13, .v (.bool (decide ((64 : Int) = 65))))], [((0, 1, 0), .bx true ([.v (.int .i64 64), .v (.int .i64 x1.fs.fAxis), .arr x1.fs.fAxes.length (lm (ik .i64) x1.fs.fAxes), .v (.bool x1.fs.fHasAxes), .v (.bool x1.fs.fKeep), .v (.bool x1.fs.fNoop), .v (.bool x1.fs.fLast), .v (.bool x1.fs.fZero), .arr x1.fs.fPerm.length (lm (ik .i64) x1.fs.fPerm), .v (.bool x1.fs.fHasPerm), .v (.int .u32 x1.fs.fAlpha), .v (.int .u32 x1.fs.fBeta), .v (.int .u32 x1.fs.fEpsilon), .v (.bool x1.fs.fLow), .v (.bool x1.fs.fHigh), .v (.bool x1.fs.fFmod), .v (.int .i64 x1.fs.fTo), .v (.int .i64 x1.fs.fMode), .v (.bool x1.fs.fTransA), .v (.bool x1.fs.fTransB), .v (.int .i64 x1.fs.fGroup), .arr x1.fs.fKernel.length (lm (ik .i64) x1.fs.fKernel), .arr x1.fs.fStrides.length (lm (ik .i64) x1.fs.fStrides), .arr x1.fs.fPads.length (lm (ik .i64) x1.fs.fPads), .arr x1.fs.fDilations.length (lm (ik .i64) x1.fs.fDilations), .v (.int .i64 x1.fs.fAuto), .v (.bool x1.fs.fCeil), .v (.bool x1.fs.fCount), .v (.int .i64 x1.fs.fBlock), .v (.int .i64 x1.fs.fStart), .v (.int .i64 x1.fs.fEnd), .v (.bool x1.fs.fHasEnd), .v (.int .i64 x1.fs.fValue.fType), .arr x1.fs.fValue.fDims.length (lm (ik .i64) x1.fs.fValue.fDims), .arr x1.fs.fValue.fF.length (lm (ik .u32) x1.fs.fValue.fF), .arr x1.fs.fValue.fI.length (lm (ik .i64) x1.fs.fValue.fI), .arr x1.fs.fValue.fB.length (lm (bk) x1.fs.fValue.fB), .arr x1.fin.length (fm c_T_Val x1.fin), .v (.int .i64 x1.fouts)]))])) (fun t => infer_ask_lists.k2 fu) ?_ (fun hj2 => ?_)
  ·rintro ⟨⟩
   show J _ (infer_ask_lists.k2 fu) _
   unfold infer_ask_lists.k2
   refine J.some ?_
   exact Js
  ·refine J.hd jn_at ?_
   refine Jc ?_
   refine J.jmp (t := ()) hj2 ?_ ?_
   ·exact Ze
   ·exact Zh
noncomputable def t123 (fu : Nat) : CallP := noP
theorem t123_ok (fu : Nat) : CpOK Tryz.prog (t123 fu ) := noP_ok
theorem ok123 (fu : Nat) (x1 : T_infer_ask) (r) (h : infer_ask_lists fu x1 = some r) : PureOK Tryz.prog 123 [.agg (c_T_infer_ask x1)] (e123 r) :=
  pure_J mixed (cp := t123 fu ) (t123_ok fu  ) noI_ok i123 (w123 _ fu x1  ) h
/-! 154: slices.IndexFunc[[]lattice/api.Val,lattice/api.Val] -/
open Aw (d154)
def d154_at := by have h := tabL Aw.d154.eq_1; simp only [AllAt, Nat.zero_add, Nat.reduceAdd] at h; exact h
theorem i154 : finfo Tryz.prog 154 d154 = some ⟨bodyOf Tryz.f154, [.tmp 4], [3]⟩ := finfo_at Tryz.func154 rfl (by kernel_rfl) (by kernel_rfl)
def e154 : Int → AV := fun r => .v (.int .i64 r)
set_option maxHeartbeats 20000000 in
theorem w154 (cp : CallP) (fu : Nat) (x1 : List T_Val) (p1 : T_Val → Option Bool) (fv_p1 : FuncId) (ca_p1 : List AV) (cap_p1 : Capt ca_p1) (hp_p1 : ∀ (y0 : T_Val) r, p1 y0 = some r → cp fv_p1 ((.agg (c_T_Val y0)) :: ca_p1) = some (.v (.bool r))) : J (go Tryz.prog noC cp noI 0 [] d154 fu (fin Tryz.prog [.tmp 4] [3]) (bodyOf Tryz.f154) (initE 0 [.arr x1.length (fm c_T_Val x1), .fn fv_p1 [] ca_p1]) [] []) (slices_IndexFunc_api_Val_api_Val fu x1 p1) e154 := by
 unfold slices_IndexFunc_api_Val_api_Val e154
 have da := d154_at
 have c4_p1 := fun g => (cap_p1.1 g).1; have c3_p1 := fun g => (cap_p1.1 g).2.1; have b4_p1 := fun g => (cap_p1.1 g).2.2.1; have b3_p1 := fun g => (cap_p1.1 g).2.2.2; have nm_p1 := cap_p1.2
 conv => arg 1; simp (disch := first | exact Zd | fail) only [bodyOf, Tryz.f154, ZZ, d154_at, simprocAttr, c4_p1, c3_p1, b4_p1, b3_p1, nm_p1]
 refine J.eq go_seq ?_
 conv => arg 1; simp (disch := first | exact Zd | fail) only [ZZ, d154_at, simprocAttr, c4_p1, c3_p1, b4_p1, b3_p1, nm_p1]
 unfold slices_IndexFunc_api_Val_api_Val.W1
 refine J.loop (fun (s : Int) => ([(0, .arr x1.length (fm c_T_Val x1)), (1, .fn fv_p1 [] ca_p1), (7, .v (.int .i64 (x1.length : Int))), (8, .v (.int .i64 s))], [])) (fun next s => slices_IndexFunc_api_Val_api_Val.L1 fu p1 x1 next s) (s0 := 0) ?_ ?_ ?_
 ·exact Ze
 ·exact Zh
 rintro nx1 k1 hn1 x4
 show J _ (slices_IndexFunc_api_Val_api_Val.L1 fu p1 x1 nx1 x4) _
 unfold slices_IndexFunc_api_Val_api_Val.L1
 conv => arg 1; simp (disch := first | exact Zd | fail) only [ZZ, d154_at, simprocAttr, c4_p1, c3_p1, b4_p1, b3_p1, nm_p1]
 refine J.eq go_seq ?_
 conv => arg 1; simp (disch := first | exact Zd | fail) only [ZZ, d154_at, simprocAttr, c4_p1, c3_p1, b4_p1, b3_p1, nm_p1]
 refine J.ite (fun h1 => ?_) (fun h1 => ?_)
 ·have h1' := decide_eq_true h1
  have h1'' : decide ((x1.length : Int) ≤ x4) = false := decide_eq_false (by omega)
  conv => arg 1; simp (disch := first | exact Zd | fail) only [ZZ, d154_at, simprocAttr, c4_p1, c3_p1, b4_p1, b3_p1, nm_p1, h1'', h1']
  refine J.eq ret_seq ?_
  refine J.eq go_seq ?_
  refine J.at fun x7 h2 h3 h4 => ?_
  refine J.bind fun x8 h5 => ?_
  have e_h5 := hp_p1 _ _ h5
  try simp only [NN, NT, LN, simprocAttr, DT] at e_h5
  conv => arg 1; simp (disch := first | exact Zd | fail) only [ZZ, d154_at, simprocAttr, c4_p1, c3_p1, b4_p1, b3_p1, nm_p1, h1'', h1', fm_cut c_T_Val_len h4, fm_fit c_T_Val_len h4, fm_at c_T_Val_len h4, fm_at0 c_T_Val_len h4, e_h5]
  refine J.ite (fun h6 => ?_) (fun h6 => ?_)
  ·have h6' : x8 = true := h6
   refine J.some ?_
   simp (maxSteps := 20000000) (disch := first | exact Zd | fail) only [ZZ, d154_at, simprocAttr, c4_p1, c3_p1, b4_p1, b3_p1, nm_p1, h1'', h1', fm_cut c_T_Val_len h4, fm_fit c_T_Val_len h4, fm_at c_T_Val_len h4, fm_at0 c_T_Val_len h4, e_h5, h6', FN]
  ·have h6' : x8 = false := Bool.eq_false_iff.2 h6
   conv => arg 1; simp (disch := first | exact Zd | fail) only [ZZ, d154_at, simprocAttr, c4_p1, c3_p1, b4_p1, b3_p1, nm_p1, h1'', h1', fm_cut c_T_Val_len h4, fm_fit c_T_Val_len h4, fm_at c_T_Val_len h4, fm_at0 c_T_Val_len h4, e_h5, h6']
   refine J.eq ret_seq ?_
   conv => arg 1; simp (disch := first | exact Zd | fail) only [ZZ, d154_at, simprocAttr, c4_p1, c3_p1, b4_p1, b3_p1, nm_p1, h1'', h1', fm_cut c_T_Val_len h4, fm_fit c_T_Val_len h4, fm_at c_T_Val_len h4, fm_at0 c_T_Val_len h4, e_h5, h6']
   refine J.next (s := wk .i64 (x4 + 1)) hn1 ?_ ?_
   ·exact Ze
   ·exact Zh
 ·have h1' := decide_eq_false h1
  have h1'' : decide ((x1.length : Int) ≤ x4) = true := decide_eq_true (by omega)
  conv => arg 1; simp (disch := first | exact Zd | fail) only [ZZ, d154_at, simprocAttr, c4_p1, c3_p1, b4_p1, b3_p1, nm_p1, h1'', h1']
  refine J.eq ret_seq ?_
  refine J.some ?_
  simp (maxSteps := 20000000) (disch := first | exact Zd | fail) only [ZZ, d154_at, simprocAttr, c4_p1, c3_p1, b4_p1, b3_p1, nm_p1, h1'', h1', FN]
noncomputable def t154 (fu : Nat) (x1 : List T_Val) (p1 : T_Val → Option Bool) (fv_p1 : FuncId) (ca_p1 : List AV) : CallP := orE fv_p1 (mkC (fun (t : T_Val) => ((.agg (c_T_Val t)) :: ca_p1 : List AV)) (fun t => p1 t) (fun r => .v (.bool r))) (noP)
theorem t154_ok (fu : Nat) (x1 : List T_Val) (p1 : T_Val → Option Bool) (fv_p1 : FuncId) (ca_p1 : List AV) (cap_p1 : Capt ca_p1) (hp_p1 : ∀ (y0 : T_Val) r, p1 y0 = some r → PureOK Tryz.prog fv_p1 ((.agg (c_T_Val y0)) :: ca_p1) (.v (.bool r))) : CpOK Tryz.prog (t154 fu x1 p1 fv_p1 ca_p1) := orE_ok (noP_ok) (mkC_ok (fun t b h => hp_p1 t b h))
theorem ok154 (fu : Nat) (x1 : List T_Val) (p1 : T_Val → Option Bool) (fv_p1 : FuncId) (ca_p1 : List AV) (cap_p1 : Capt ca_p1) (hp_p1 : ∀ (y0 : T_Val) r, p1 y0 = some r → PureOK Tryz.prog fv_p1 ((.agg (c_T_Val y0)) :: ca_p1) (.v (.bool r))) (r) (h : slices_IndexFunc_api_Val_api_Val fu x1 p1 = some r) : PureOK Tryz.prog 154 [.arr x1.length (fm c_T_Val x1), .fn fv_p1 [] ca_p1] (e154 r) :=
  pure_J mixed (cp := t154 fu x1 p1 fv_p1 ca_p1) (t154_ok fu x1 p1 fv_p1 ca_p1 cap_p1 hp_p1) noI_ok i154 (w154 _ fu x1 p1 fv_p1 ca_p1 cap_p1 (fun y0 r h => orE_hit (mkC_at (a := y0) (by intro a b h; first | (exact rfl) | (simp only [INJ, IJ] at h; first | exact h | (simp_all [Prod.ext_iff]) )) h)) ) h
/-! 124: slices.ContainsFunc[[]lattice/api.Val,lattice/api.Val] -/
open Aw (d124)
def d124_at := by have h := tabL Aw.d124.eq_1; simp only [AllAt, Nat.zero_add, Nat.reduceAdd] at h; exact h
theorem i124 : finfo Tryz.prog 124 d124 = some ⟨bodyOf Tryz.f124, [.tmp 4], [4]⟩ := finfo_at Tryz.func124 rfl (by kernel_rfl) (by kernel_rfl)
def e124 : Bool → AV := fun r => .v (.bool r)
set_option maxHeartbeats 20000000 in
theorem w124 (cp : CallP) (fu : Nat) (x1 : List T_Val) (p1 : T_Val → Option Bool) (fv_p1 : FuncId) (ca_p1 : List AV) (cap_p1 : Capt ca_p1) (hp_p1 : ∀ (y0 : T_Val) r, p1 y0 = some r → cp fv_p1 ((.agg (c_T_Val y0)) :: ca_p1) = some (.v (.bool r))) (H154_0 : ∀ (a0 : List T_Val) r, slices_IndexFunc_api_Val_api_Val fu a0 p1 = some r → cp 154 [.arr a0.length (fm c_T_Val a0), .fn fv_p1 [] ca_p1] = some (.v (.int .i64 r))) : J (go Tryz.prog noC cp noI 0 [] d124 fu (fin Tryz.prog [.tmp 4] [4]) (bodyOf Tryz.f124) (initE 0 [.arr x1.length (fm c_T_Val x1), .fn fv_p1 [] ca_p1]) [] []) (slices_ContainsFunc_api_Val_api_Val fu x1 p1) e124 := by
 unfold slices_ContainsFunc_api_Val_api_Val e124
 have da := d124_at
 have c4_p1 := fun g => (cap_p1.1 g).1; have c3_p1 := fun g => (cap_p1.1 g).2.1; have b4_p1 := fun g => (cap_p1.1 g).2.2.1; have b3_p1 := fun g => (cap_p1.1 g).2.2.2; have nm_p1 := cap_p1.2
 refine J.bind fun x2 h1 => ?_
 have e_h1 := H154_0 _ _ h1
 try simp only [NN, NT, LN, simprocAttr, DT] at e_h1
 refine J.some ?_
 simp (maxSteps := 20000000) (disch := first | exact Zd | fail) only [bodyOf, Tryz.f124, ZZ, d124_at, simprocAttr, c4_p1, c3_p1, b4_p1, b3_p1, nm_p1, e_h1, FN]
noncomputable def t124 (fu : Nat) (x1 : List T_Val) (p1 : T_Val → Option Bool) (fv_p1 : FuncId) (ca_p1 : List AV) : CallP := orE 154 (mkC (fun (t : List T_Val) => ([.arr t.length (fm c_T_Val t), .fn fv_p1 [] ca_p1] : List AV)) (fun t => slices_IndexFunc_api_Val_api_Val fu t p1) e154) (orE fv_p1 (mkC (fun (t : T_Val) => ((.agg (c_T_Val t)) :: ca_p1 : List AV)) (fun t => p1 t) (fun r => .v (.bool r))) (noP))
theorem t124_ok (fu : Nat) (x1 : List T_Val) (p1 : T_Val → Option Bool) (fv_p1 : FuncId) (ca_p1 : List AV) (cap_p1 : Capt ca_p1) (hp_p1 : ∀ (y0 : T_Val) r, p1 y0 = some r → PureOK Tryz.prog fv_p1 ((.agg (c_T_Val y0)) :: ca_p1) (.v (.bool r))) : CpOK Tryz.prog (t124 fu x1 p1 fv_p1 ca_p1) := orE_ok (orE_ok (noP_ok) (mkC_ok (fun t b h => hp_p1 t b h))) (mkC_ok (fun t b h => ok154 fu t p1 fv_p1 ca_p1 cap_p1 hp_p1 b h))
theorem ok124 (fu : Nat) (x1 : List T_Val) (p1 : T_Val → Option Bool) (fv_p1 : FuncId) (ca_p1 : List AV) (cap_p1 : Capt ca_p1) (hp_p1 : ∀ (y0 : T_Val) r, p1 y0 = some r → PureOK Tryz.prog fv_p1 ((.agg (c_T_Val y0)) :: ca_p1) (.v (.bool r))) (r) (h : slices_ContainsFunc_api_Val_api_Val fu x1 p1 = some r) : PureOK Tryz.prog 124 [.arr x1.length (fm c_T_Val x1), .fn fv_p1 [] ca_p1] (e124 r) :=
  pure_J mixed (cp := t124 fu x1 p1 fv_p1 ca_p1) (t124_ok fu x1 p1 fv_p1 ca_p1 cap_p1 hp_p1) noI_ok i124 (w124 _ fu x1 p1 fv_p1 ca_p1 cap_p1 (fun y0 r h => orE_skip (fun hfv => mkC_none (by intro t h; simp at h)) (orE_hit (mkC_at (a := y0) (by intro a b h; first | (exact rfl) | (simp only [INJ, IJ] at h; first | exact h | (simp_all [Prod.ext_iff]) )) h))) (fun a0 r h => orE_hit (mkC_at (a := a0) (by intro a b h; first | (exact rfl) | (simp only [INJ, IJ] at h; first | exact h | (simp_all [Prod.ext_iff]) )) h))) h
/-! 132: slices.Equal[[]int,int] -/
open Aw (d132)
def d132_at := by have h := tabL Aw.d132.eq_1; simp only [AllAt, Nat.zero_add, Nat.reduceAdd] at h; exact h
theorem i132 : finfo Tryz.prog 132 d132 = some ⟨bodyOf Tryz.f132, [.tmp 4], [4]⟩ := finfo_at Tryz.func132 rfl (by kernel_rfl) (by kernel_rfl)
def e132 : Bool → AV := fun r => .v (.bool r)
set_option maxHeartbeats 20000000 in
theorem w132 (cp : CallP) (fu : Nat) (x1 : List Int) (x2 : List Int) : J (go Tryz.prog noC cp noI 0 [] d132 fu (fin Tryz.prog [.tmp 4] [4]) (bodyOf Tryz.f132) (initE 0 [.arr x1.length (lm (ik .i64) x1), .arr x2.length (lm (ik .i64) x2)]) [] []) (slices_Equal_int fu x1 x2) e132 := by
 unfold slices_Equal_int e132
 conv => arg 1; simp (disch := first | exact Zd | fail) only [bodyOf, Tryz.f132, ZZ, d132_at, simprocAttr]
 refine J.eq go_seq ?_
 conv => arg 1; simp (disch := first | exact Zd | fail) only [ZZ, d132_at, simprocAttr]
 refine J.ite (fun h1 => ?_) (fun h1 => ?_)
 ·have h1' := decide_eq_true h1
  conv => arg 1; simp (disch := first | exact Zd | fail) only [ZZ, d132_at, simprocAttr, h1']
  refine J.eq ret_seq ?_
  refine J.eq go_seq ?_
  conv => arg 1; simp (disch := first | exact Zd | fail) only [ZZ, d132_at, simprocAttr, h1']
  unfold slices_Equal_int.W1
  refine J.loop (fun (s : Int) => ([(0, .arr x1.length (lm (ik .i64) x1)), (1, .arr x2.length (lm (ik .i64) x2)), (12, .v (.int .i64 (x1.length : Int))), (13, .v (.int .i64 s))], [])) (fun next s => slices_Equal_int.L1 fu x1 x2 next s) (s0 := 0) ?_ ?_ ?_
  ·exact Ze
  ·exact Zh
  rintro nx1 k1 hn1 x5
  show J _ (slices_Equal_int.L1 fu x1 x2 nx1 x5) _
  unfold slices_Equal_int.L1
  conv => arg 1; simp (disch := first | exact Zd | fail) only [ZZ, d132_at, simprocAttr, h1']
  refine J.eq go_seq ?_
  conv => arg 1; simp (disch := first | exact Zd | fail) only [ZZ, d132_at, simprocAttr, h1']
  refine J.ite (fun h2 => ?_) (fun h2 => ?_)
  ·have h2' := decide_eq_true h2
   have h2'' : decide ((x1.length : Int) ≤ x5) = false := decide_eq_false (by omega)
   conv => arg 1; simp (disch := first | exact Zd | fail) only [ZZ, d132_at, simprocAttr, h1', h2'', h2']
   refine J.eq ret_seq ?_
   refine J.eq go_seq ?_
   refine J.at fun x8 h3 h4 h5 => ?_
   refine J.at fun x9 h6 h7 h8 => ?_
   conv => arg 1; simp (disch := first | exact Zd | fail) only [ZZ, d132_at, simprocAttr, h1', h2'', h2', lm_ik h5, lm_ik h8]
   refine J.ite (fun h9 => ?_) (fun h9 => ?_)
   ·have h9' := decide_eq_true h9
    conv => arg 1; simp (disch := first | exact Zd | fail) only [ZZ, d132_at, simprocAttr, h1', h2'', h2', lm_ik h5, lm_ik h8, h9']
    refine J.eq ret_seq ?_
    conv => arg 1; simp (disch := first | exact Zd | fail) only [ZZ, d132_at, simprocAttr, h1', h2'', h2', lm_ik h5, lm_ik h8, h9']
    refine J.next (s := wk .i64 (x5 + 1)) hn1 ?_ ?_
    ·exact Ze
    ·exact Zh
   ·have h9' := decide_eq_false h9
    refine J.some ?_
    simp (maxSteps := 20000000) (disch := first | exact Zd | fail) only [ZZ, d132_at, simprocAttr, h1', h2'', h2', lm_ik h5, lm_ik h8, h9', FN]
  ·have h2' := decide_eq_false h2
   have h2'' : decide ((x1.length : Int) ≤ x5) = true := decide_eq_true (by omega)
   conv => arg 1; simp (disch := first | exact Zd | fail) only [ZZ, d132_at, simprocAttr, h1', h2'', h2']
   refine J.eq ret_seq ?_
   refine J.some ?_
   simp (maxSteps := 20000000) (disch := first | exact Zd | fail) only [ZZ, d132_at, simprocAttr, h1', h2'', h2', FN]
 ·have h1' := decide_eq_false h1
  refine J.some ?_
  simp (maxSteps := 20000000) (disch := first | exact Zd | fail) only [ZZ, d132_at, simprocAttr, h1', FN]
noncomputable def t132 (fu : Nat) : CallP := noP
theorem t132_ok (fu : Nat) : CpOK Tryz.prog (t132 fu ) := noP_ok
theorem ok132 (fu : Nat) (x1 : List Int) (x2 : List Int) (r) (h : slices_Equal_int fu x1 x2 = some r) : PureOK Tryz.prog 132 [.arr x1.length (lm (ik .i64) x1), .arr x2.length (lm (ik .i64) x2)] (e132 r) :=
  pure_J mixed (cp := t132 fu ) (t132_ok fu  ) noI_ok i132 (w132 _ fu x1 x2  ) h
/-! 126: lattice/infer.held -/
open Aw (d126)
def d126_at := by have h := tabL Aw.d126.eq_1; simp only [AllAt, Nat.zero_add, Nat.reduceAdd] at h; exact h
theorem i126 : finfo Tryz.prog 126 d126 = some ⟨bodyOf Tryz.f126, [.tmp 2], [4]⟩ := finfo_at Tryz.func126 rfl (by kernel_rfl) (by kernel_rfl)
def e126 : Bool → AV := fun r => .v (.bool r)
set_option maxHeartbeats 20000000 in
theorem w126 (cp : CallP) (fu : Nat) (x1 : T_Val) (H18_0 : ∀ (a0 : T_Tensor) r, tens_Check fu a0 = some r → cp 18 [.agg (c_T_Tensor a0)] = some (.v (.int .i64 r))) (H132_0 : ∀ (a0 : List Int) (a1 : List Int) r, slices_Equal_int fu a0 a1 = some r → cp 132 [.arr a0.length (lm (ik .i64) a0), .arr a1.length (lm (ik .i64) a1)] = some (.v (.bool r))) : J (go Tryz.prog noC cp noI 0 [] d126 fu (fin Tryz.prog [.tmp 2] [4]) (bodyOf Tryz.f126) (initE 0 [.agg (c_T_Val x1)]) [] []) (infer_held fu x1) e126 := by
 unfold infer_held e126
 have da := d126_at
 conv => arg 1; simp (disch := first | exact Zd | fail) only [bodyOf, Tryz.f126, ZZ, d126_at, simprocAttr]
 refine J.eq go_seq ?_
 refine Jc ?_
 refine J.ite (fun h1 => ?_) (fun h1 => ?_)
 ·have h1' : x1.fConst = true := h1
  refine J.bind fun x2 h2 => ?_
  have e_h2 := H18_0 _ _ h2
  try simp only [NN, NT, LN, simprocAttr, DT] at e_h2
  refine Jc ?_
  refine J.ite (fun h3 => ?_) (fun h3 => ?_)
  ·have h3' := decide_eq_true h3
   refine Jc ?_
   refine J.ite (fun h4 => ?_) (fun h4 => ?_)
   ·have h4' := decide_eq_true h4
    refine J.bind fun x3 h5 => ?_
    have e_h5 := H132_0 _ _ _ h5
    try simp only [NN, NT, LN, simprocAttr, DT] at e_h5
    refine Jc ?_
    refine J.eq ret_seq ?_
    refine J.some ?_
    exact Js
   ·have h4' := decide_eq_false h4
    refine Jc ?_
    refine J.eq ret_seq ?_
    refine J.some ?_
    exact Js
  ·have h3' := decide_eq_false h3
   refine Jc ?_
   refine J.eq ret_seq ?_
   refine J.some ?_
   exact Js
 ·have h1' : x1.fConst = false := Bool.eq_false_iff.2 h1
  refine Jc ?_
  refine J.eq ret_seq ?_
  refine J.some ?_
  exact Js
noncomputable def t126 (fu : Nat) : CallP := orE 18 (mkC (fun (t : T_Tensor) => ([.agg (c_T_Tensor t)] : List AV)) (fun t => tens_Check fu t) e18) (orE 132 (mkC (fun (t : (List Int) × (List Int)) => ([.arr t.1.length (lm (ik .i64) t.1), .arr t.2.length (lm (ik .i64) t.2)] : List AV)) (fun t => slices_Equal_int fu t.1 t.2) e132) (noP))
theorem t126_ok (fu : Nat) : CpOK Tryz.prog (t126 fu ) := orE_ok (orE_ok (noP_ok) (mkC_ok (fun t b h => ok132 fu t.1 t.2  b h))) (mkC_ok (fun t b h => ok18 fu t  b h))
theorem ok126 (fu : Nat) (x1 : T_Val) (r) (h : infer_held fu x1 = some r) : PureOK Tryz.prog 126 [.agg (c_T_Val x1)] (e126 r) :=
  pure_J mixed (cp := t126 fu ) (t126_ok fu  ) noI_ok i126 (w126 _ fu x1  (fun a0 r h => orE_hit (mkC_at (a := a0) (by intro a b h; first | (exact rfl) | (simp only [INJ, IJ] at h; first | exact h | (simp_all [Prod.ext_iff]) )) h)) (fun a0 a1 r h => orE_miss (by decide) (orE_hit (mkC_at (a := (a0, a1)) (by intro a b h; first | (exact rfl) | (simp only [INJ, IJ] at h; first | exact h | (simp_all [Prod.ext_iff]) )) h)))) h
/-! 125: (lattice/infer.ask).told$1 -/
open Aw (d125)
def d125_at := by have h := tabL Aw.d125.eq_1; simp only [AllAt, Nat.zero_add, Nat.reduceAdd] at h; exact h
theorem i125 : finfo Tryz.prog 125 d125 = some ⟨bodyOf Tryz.f125, [.tmp 2], [4]⟩ := finfo_at Tryz.func125 rfl (by kernel_rfl) (by kernel_rfl)
def e125 : Bool → AV := fun r => .v (.bool r)
set_option maxHeartbeats 20000000 in
theorem w125 (cp : CallP) (fu : Nat) (x1 : T_Val) (H126_0 : ∀ (a0 : T_Val) r, infer_held fu a0 = some r → cp 126 [.agg (c_T_Val a0)] = some (.v (.bool r))) : J (go Tryz.prog noC cp noI 0 [] d125 fu (fin Tryz.prog [.tmp 2] [4]) (bodyOf Tryz.f125) (initE 0 [.agg (c_T_Val x1)]) [] []) (infer_ask_told_1 fu x1) e125 := by
 unfold infer_ask_told_1 e125
 have da := d125_at
 refine J.bind fun x2 h1 => ?_
 have e_h1 := H126_0 _ _ h1
 try simp only [NN, NT, LN, simprocAttr, DT] at e_h1
 refine J.some ?_
 simp (maxSteps := 20000000) (disch := first | exact Zd | fail) only [bodyOf, Tryz.f125, ZZ, d125_at, simprocAttr, e_h1, FN]
noncomputable def t125 (fu : Nat) : CallP := orE 126 (mkC (fun (t : T_Val) => ([.agg (c_T_Val t)] : List AV)) (fun t => infer_held fu t) e126) (noP)
theorem t125_ok (fu : Nat) : CpOK Tryz.prog (t125 fu ) := orE_ok (noP_ok) (mkC_ok (fun t b h => ok126 fu t  b h))
theorem ok125 (fu : Nat) (x1 : T_Val) (r) (h : infer_ask_told_1 fu x1 = some r) : PureOK Tryz.prog 125 [.agg (c_T_Val x1)] (e125 r) :=
  pure_J mixed (cp := t125 fu ) (t125_ok fu  ) noI_ok i125 (w125 _ fu x1  (fun a0 r h => orE_hit (mkC_at (a := a0) (by intro a b h; first | (exact rfl) | (simp only [INJ, IJ] at h; first | exact h | (simp_all [Prod.ext_iff]) )) h))) h
/-! 127: (lattice/infer.ask).told$2 -/
open Aw (d127)
def d127_at := by have h := tabL Aw.d127.eq_1; simp only [AllAt, Nat.zero_add, Nat.reduceAdd] at h; exact h
theorem i127 : finfo Tryz.prog 127 d127 = some ⟨bodyOf Tryz.f127, [.tmp 2], [4]⟩ := finfo_at Tryz.func127 rfl (by kernel_rfl) (by kernel_rfl)
def e127 : Bool → AV := fun r => .v (.bool r)
set_option maxHeartbeats 20000000 in
theorem w127 (cp : CallP) (fu : Nat) (x1 : T_Val) : J (go Tryz.prog noC cp noI 0 [] d127 fu (fin Tryz.prog [.tmp 2] [4]) (bodyOf Tryz.f127) (initE 0 [.agg (c_T_Val x1)]) [] []) (infer_ask_told_2 fu x1) e127 := by
 unfold infer_ask_told_2 e127
 have da := d127_at
 refine J.some ?_
 simp (maxSteps := 20000000) (disch := first | exact Zd | fail) only [bodyOf, Tryz.f127, ZZ, d127_at, simprocAttr, FN]
noncomputable def t127 (fu : Nat) : CallP := noP
theorem t127_ok (fu : Nat) : CpOK Tryz.prog (t127 fu ) := noP_ok
theorem ok127 (fu : Nat) (x1 : T_Val) (r) (h : infer_ask_told_2 fu x1 = some r) : PureOK Tryz.prog 127 [.agg (c_T_Val x1)] (e127 r) :=
  pure_J mixed (cp := t127 fu ) (t127_ok fu  ) noI_ok i127 (w127 _ fu x1  ) h
/-! 155: slices.IndexFunc[[]int64,int64] -/
open Aw (d155)
def d155_at := by have h := tabL Aw.d155.eq_1; simp only [AllAt, Nat.zero_add, Nat.reduceAdd] at h; exact h
theorem i155 : finfo Tryz.prog 155 d155 = some ⟨bodyOf Tryz.f155, [.tmp 4], [3]⟩ := finfo_at Tryz.func155 rfl (by kernel_rfl) (by kernel_rfl)
def e155 : Int → AV := fun r => .v (.int .i64 r)
set_option maxHeartbeats 20000000 in
theorem w155 (cp : CallP) (fu : Nat) (x1 : List Int) (p1 : Int → Option Bool) (fv_p1 : FuncId) (ca_p1 : List AV) (cap_p1 : Capt ca_p1) (hp_p1 : ∀ (y0 : Int) r, p1 y0 = some r → cp fv_p1 ((.v (.int .i64 y0)) :: ca_p1) = some (.v (.bool r))) : J (go Tryz.prog noC cp noI 0 [] d155 fu (fin Tryz.prog [.tmp 4] [3]) (bodyOf Tryz.f155) (initE 0 [.arr x1.length (lm (ik .i64) x1), .fn fv_p1 [] ca_p1]) [] []) (slices_IndexFunc_int64 fu x1 p1) e155 := by
 unfold slices_IndexFunc_int64 e155
 have da := d155_at
 have c4_p1 := fun g => (cap_p1.1 g).1; have c3_p1 := fun g => (cap_p1.1 g).2.1; have b4_p1 := fun g => (cap_p1.1 g).2.2.1; have b3_p1 := fun g => (cap_p1.1 g).2.2.2; have nm_p1 := cap_p1.2
 conv => arg 1; simp (disch := first | exact Zd | fail) only [bodyOf, Tryz.f155, ZZ, d155_at, simprocAttr, c4_p1, c3_p1, b4_p1, b3_p1, nm_p1]
 refine J.eq go_seq ?_
 conv => arg 1; simp (disch := first | exact Zd | fail) only [ZZ, d155_at, simprocAttr, c4_p1, c3_p1, b4_p1, b3_p1, nm_p1]
 unfold slices_IndexFunc_int64.W1
 refine J.loop (fun (s : Int) => ([(0, .arr x1.length (lm (ik .i64) x1)), (1, .fn fv_p1 [] ca_p1), (7, .v (.int .i64 (x1.length : Int))), (8, .v (.int .i64 s))], [])) (fun next s => slices_IndexFunc_int64.L1 fu p1 x1 next s) (s0 := 0) ?_ ?_ ?_
 ·exact Ze
 ·exact Zh
 rintro nx1 k1 hn1 x4
 show J _ (slices_IndexFunc_int64.L1 fu p1 x1 nx1 x4) _
 unfold slices_IndexFunc_int64.L1
 conv => arg 1; simp (disch := first | exact Zd | fail) only [ZZ, d155_at, simprocAttr, c4_p1, c3_p1, b4_p1, b3_p1, nm_p1]
 refine J.eq go_seq ?_
 conv => arg 1; simp (disch := first | exact Zd | fail) only [ZZ, d155_at, simprocAttr, c4_p1, c3_p1, b4_p1, b3_p1, nm_p1]
 refine J.ite (fun h1 => ?_) (fun h1 => ?_)
 ·have h1' := decide_eq_true h1
  have h1'' : decide ((x1.length : Int) ≤ x4) = false := decide_eq_false (by omega)
  conv => arg 1; simp (disch := first | exact Zd | fail) only [ZZ, d155_at, simprocAttr, c4_p1, c3_p1, b4_p1, b3_p1, nm_p1, h1'', h1']
  refine J.eq ret_seq ?_
  refine J.eq go_seq ?_
  refine J.at fun x7 h2 h3 h4 => ?_
  refine J.bind fun x8 h5 => ?_
  have e_h5 := hp_p1 _ _ h5
  try simp only [NN, NT, LN, simprocAttr, DT] at e_h5
  conv => arg 1; simp (disch := first | exact Zd | fail) only [ZZ, d155_at, simprocAttr, c4_p1, c3_p1, b4_p1, b3_p1, nm_p1, h1'', h1', lm_ik h4, e_h5]
  refine J.ite (fun h6 => ?_) (fun h6 => ?_)
  ·have h6' : x8 = true := h6
   refine J.some ?_
   simp (maxSteps := 20000000) (disch := first | exact Zd | fail) only [ZZ, d155_at, simprocAttr, c4_p1, c3_p1, b4_p1, b3_p1, nm_p1, h1'', h1', lm_ik h4, e_h5, h6', FN]
  ·have h6' : x8 = false := Bool.eq_false_iff.2 h6
   conv => arg 1; simp (disch := first | exact Zd | fail) only [ZZ, d155_at, simprocAttr, c4_p1, c3_p1, b4_p1, b3_p1, nm_p1, h1'', h1', lm_ik h4, e_h5, h6']
   refine J.eq ret_seq ?_
   conv => arg 1; simp (disch := first | exact Zd | fail) only [ZZ, d155_at, simprocAttr, c4_p1, c3_p1, b4_p1, b3_p1, nm_p1, h1'', h1', lm_ik h4, e_h5, h6']
   refine J.next (s := wk .i64 (x4 + 1)) hn1 ?_ ?_
   ·exact Ze
   ·exact Zh
 ·have h1' := decide_eq_false h1
  have h1'' : decide ((x1.length : Int) ≤ x4) = true := decide_eq_true (by omega)
  conv => arg 1; simp (disch := first | exact Zd | fail) only [ZZ, d155_at, simprocAttr, c4_p1, c3_p1, b4_p1, b3_p1, nm_p1, h1'', h1']
  refine J.eq ret_seq ?_
  refine J.some ?_
  simp (maxSteps := 20000000) (disch := first | exact Zd | fail) only [ZZ, d155_at, simprocAttr, c4_p1, c3_p1, b4_p1, b3_p1, nm_p1, h1'', h1', FN]
noncomputable def t155 (fu : Nat) (x1 : List Int) (p1 : Int → Option Bool) (fv_p1 : FuncId) (ca_p1 : List AV) : CallP := orE fv_p1 (mkC (fun (t : Int) => ((.v (.int .i64 t)) :: ca_p1 : List AV)) (fun t => p1 t) (fun r => .v (.bool r))) (noP)
theorem t155_ok (fu : Nat) (x1 : List Int) (p1 : Int → Option Bool) (fv_p1 : FuncId) (ca_p1 : List AV) (cap_p1 : Capt ca_p1) (hp_p1 : ∀ (y0 : Int) r, p1 y0 = some r → PureOK Tryz.prog fv_p1 ((.v (.int .i64 y0)) :: ca_p1) (.v (.bool r))) : CpOK Tryz.prog (t155 fu x1 p1 fv_p1 ca_p1) := orE_ok (noP_ok) (mkC_ok (fun t b h => hp_p1 t b h))
theorem ok155 (fu : Nat) (x1 : List Int) (p1 : Int → Option Bool) (fv_p1 : FuncId) (ca_p1 : List AV) (cap_p1 : Capt ca_p1) (hp_p1 : ∀ (y0 : Int) r, p1 y0 = some r → PureOK Tryz.prog fv_p1 ((.v (.int .i64 y0)) :: ca_p1) (.v (.bool r))) (r) (h : slices_IndexFunc_int64 fu x1 p1 = some r) : PureOK Tryz.prog 155 [.arr x1.length (lm (ik .i64) x1), .fn fv_p1 [] ca_p1] (e155 r) :=
  pure_J mixed (cp := t155 fu x1 p1 fv_p1 ca_p1) (t155_ok fu x1 p1 fv_p1 ca_p1 cap_p1 hp_p1) noI_ok i155 (w155 _ fu x1 p1 fv_p1 ca_p1 cap_p1 (fun y0 r h => orE_hit (mkC_at (a := y0) (by intro a b h; first | (exact rfl) | (simp only [INJ, IJ] at h; first | exact h | (simp_all [Prod.ext_iff]) )) h)) ) h
/-! 129: slices.ContainsFunc[[]int64,int64] -/
open Aw (d129)
def d129_at := by have h := tabL Aw.d129.eq_1; simp only [AllAt, Nat.zero_add, Nat.reduceAdd] at h; exact h
theorem i129 : finfo Tryz.prog 129 d129 = some ⟨bodyOf Tryz.f129, [.tmp 4], [4]⟩ := finfo_at Tryz.func129 rfl (by kernel_rfl) (by kernel_rfl)
def e129 : Bool → AV := fun r => .v (.bool r)
set_option maxHeartbeats 20000000 in
theorem w129 (cp : CallP) (fu : Nat) (x1 : List Int) (p1 : Int → Option Bool) (fv_p1 : FuncId) (ca_p1 : List AV) (cap_p1 : Capt ca_p1) (hp_p1 : ∀ (y0 : Int) r, p1 y0 = some r → cp fv_p1 ((.v (.int .i64 y0)) :: ca_p1) = some (.v (.bool r))) (H155_0 : ∀ (a0 : List Int) r, slices_IndexFunc_int64 fu a0 p1 = some r → cp 155 [.arr a0.length (lm (ik .i64) a0), .fn fv_p1 [] ca_p1] = some (.v (.int .i64 r))) : J (go Tryz.prog noC cp noI 0 [] d129 fu (fin Tryz.prog [.tmp 4] [4]) (bodyOf Tryz.f129) (initE 0 [.arr x1.length (lm (ik .i64) x1), .fn fv_p1 [] ca_p1]) [] []) (slices_ContainsFunc_int64 fu x1 p1) e129 := by
 unfold slices_ContainsFunc_int64 e129
 have da := d129_at
 have c4_p1 := fun g => (cap_p1.1 g).1; have c3_p1 := fun g => (cap_p1.1 g).2.1; have b4_p1 := fun g => (cap_p1.1 g).2.2.1; have b3_p1 := fun g => (cap_p1.1 g).2.2.2; have nm_p1 := cap_p1.2
 refine J.bind fun x2 h1 => ?_
 have e_h1 := H155_0 _ _ h1
 try simp only [NN, NT, LN, simprocAttr, DT] at e_h1
 refine J.some ?_
 simp (maxSteps := 20000000) (disch := first | exact Zd | fail) only [bodyOf, Tryz.f129, ZZ, d129_at, simprocAttr, c4_p1, c3_p1, b4_p1, b3_p1, nm_p1, e_h1, FN]
noncomputable def t129 (fu : Nat) (x1 : List Int) (p1 : Int → Option Bool) (fv_p1 : FuncId) (ca_p1 : List AV) : CallP := orE 155 (mkC (fun (t : List Int) => ([.arr t.length (lm (ik .i64) t), .fn fv_p1 [] ca_p1] : List AV)) (fun t => slices_IndexFunc_int64 fu t p1) e155) (orE fv_p1 (mkC (fun (t : Int) => ((.v (.int .i64 t)) :: ca_p1 : List AV)) (fun t => p1 t) (fun r => .v (.bool r))) (noP))
theorem t129_ok (fu : Nat) (x1 : List Int) (p1 : Int → Option Bool) (fv_p1 : FuncId) (ca_p1 : List AV) (cap_p1 : Capt ca_p1) (hp_p1 : ∀ (y0 : Int) r, p1 y0 = some r → PureOK Tryz.prog fv_p1 ((.v (.int .i64 y0)) :: ca_p1) (.v (.bool r))) : CpOK Tryz.prog (t129 fu x1 p1 fv_p1 ca_p1) := orE_ok (orE_ok (noP_ok) (mkC_ok (fun t b h => hp_p1 t b h))) (mkC_ok (fun t b h => ok155 fu t p1 fv_p1 ca_p1 cap_p1 hp_p1 b h))
theorem ok129 (fu : Nat) (x1 : List Int) (p1 : Int → Option Bool) (fv_p1 : FuncId) (ca_p1 : List AV) (cap_p1 : Capt ca_p1) (hp_p1 : ∀ (y0 : Int) r, p1 y0 = some r → PureOK Tryz.prog fv_p1 ((.v (.int .i64 y0)) :: ca_p1) (.v (.bool r))) (r) (h : slices_ContainsFunc_int64 fu x1 p1 = some r) : PureOK Tryz.prog 129 [.arr x1.length (lm (ik .i64) x1), .fn fv_p1 [] ca_p1] (e129 r) :=
  pure_J mixed (cp := t129 fu x1 p1 fv_p1 ca_p1) (t129_ok fu x1 p1 fv_p1 ca_p1 cap_p1 hp_p1) noI_ok i129 (w129 _ fu x1 p1 fv_p1 ca_p1 cap_p1 (fun y0 r h => orE_skip (fun hfv => mkC_none (by intro t h; simp at h)) (orE_hit (mkC_at (a := y0) (by intro a b h; first | (exact rfl) | (simp only [INJ, IJ] at h; first | exact h | (simp_all [Prod.ext_iff]) )) h))) (fun a0 r h => orE_hit (mkC_at (a := a0) (by intro a b h; first | (exact rfl) | (simp only [INJ, IJ] at h; first | exact h | (simp_all [Prod.ext_iff]) )) h))) h
/-! 130: (lattice/infer.ask).told$3$1 -/
open Aw (d130)
def d130_at := by have h := tabL Aw.d130.eq_1; simp only [AllAt, Nat.zero_add, Nat.reduceAdd] at h; exact h
theorem i130 : finfo Tryz.prog 130 d130 = some ⟨bodyOf Tryz.f130, [.tmp 2], [4]⟩ := finfo_at Tryz.func130 rfl (by kernel_rfl) (by kernel_rfl)
def e130 : Bool → AV := fun r => .v (.bool r)
set_option maxHeartbeats 20000000 in
theorem w130 (cp : CallP) (fu : Nat) (x1 : Int) : J (go Tryz.prog noC cp noI 0 [] d130 fu (fin Tryz.prog [.tmp 2] [4]) (bodyOf Tryz.f130) (initE 0 [.v (.int .i64 x1)]) [] []) (infer_ask_told_3_1 fu x1) e130 := by
 unfold infer_ask_told_3_1 e130
 have da := d130_at
 refine J.some ?_
 simp (maxSteps := 20000000) (disch := first | exact Zd | fail) only [bodyOf, Tryz.f130, ZZ, d130_at, simprocAttr, FN]
noncomputable def t130 (fu : Nat) : CallP := noP
theorem t130_ok (fu : Nat) : CpOK Tryz.prog (t130 fu ) := noP_ok
theorem ok130 (fu : Nat) (x1 : Int) (r) (h : infer_ask_told_3_1 fu x1 = some r) : PureOK Tryz.prog 130 [.v (.int .i64 x1)] (e130 r) :=
  pure_J mixed (cp := t130 fu ) (t130_ok fu  ) noI_ok i130 (w130 _ fu x1  ) h
/-! 128: (lattice/infer.ask).told$3 -/
open Aw (d128)
def d128_at := by have h := tabL Aw.d128.eq_1; simp only [AllAt, Nat.zero_add, Nat.reduceAdd] at h; exact h
theorem i128 : finfo Tryz.prog 128 d128 = some ⟨bodyOf Tryz.f128, [.tmp 2], [4]⟩ := finfo_at Tryz.func128 rfl (by kernel_rfl) (by kernel_rfl)
def e128 : Bool → AV := fun r => .v (.bool r)
set_option maxHeartbeats 20000000 in
theorem w128 (cp : CallP) (fu : Nat) (x1 : T_Val) (H129_0 : ∀ (a0 : List Int) r, slices_ContainsFunc_int64 fu a0 (fun y0 => infer_ask_told_3_1 fu y0) = some r → cp 129 [.arr a0.length (lm (ik .i64) a0), .fn 130 [] []] = some (.v (.bool r))) : J (go Tryz.prog noC cp noI 0 [] d128 fu (fin Tryz.prog [.tmp 2] [4]) (bodyOf Tryz.f128) (initE 0 [.agg (c_T_Val x1)]) [] []) (infer_ask_told_3 fu x1) e128 := by
 unfold infer_ask_told_3 e128
 have da := d128_at
 refine J.bind fun x2 h1 => ?_
 have e_h1 := H129_0 _ _ h1
 try simp only [NN, NT, LN, simprocAttr, DT] at e_h1
 refine J.some ?_
 simp (maxSteps := 20000000) (disch := first | exact Zd | fail) only [bodyOf, Tryz.f128, ZZ, d128_at, simprocAttr, e_h1, FN]
noncomputable def t128 (fu : Nat) : CallP := orE 129 (mkC (fun (t : List Int) => ([.arr t.length (lm (ik .i64) t), .fn 130 [] []] : List AV)) (fun t => slices_ContainsFunc_int64 fu t (fun y0 => infer_ask_told_3_1 fu y0)) e129) (noP)
theorem t128_ok (fu : Nat) : CpOK Tryz.prog (t128 fu ) := orE_ok (noP_ok) (mkC_ok (fun t b h => ok129 fu t (fun y0 => infer_ask_told_3_1 fu y0) 130 [] Capt.nil (fun y0 r h => ok130 fu y0  r h) b h))
theorem ok128 (fu : Nat) (x1 : T_Val) (r) (h : infer_ask_told_3 fu x1 = some r) : PureOK Tryz.prog 128 [.agg (c_T_Val x1)] (e128 r) :=
  pure_J mixed (cp := t128 fu ) (t128_ok fu  ) noI_ok i128 (w128 _ fu x1  (fun a0 r h => orE_hit (mkC_at (a := a0) (by intro a b h; first | (exact rfl) | (simp only [INJ, IJ] at h; first | exact h | (simp_all [Prod.ext_iff]) )) h))) h
/-! 71: (lattice/infer.ask).told -/
open Aw (d71)
def d71_at := by have h := tabL Aw.d71.eq_1; simp only [AllAt, Nat.zero_add, Nat.reduceAdd] at h; exact h
theorem i71 : finfo Tryz.prog 71 d71 = some ⟨bodyOf Tryz.f71, [.tmp 2], [30]⟩ := finfo_at Tryz.func71 rfl (by kernel_rfl) (by kernel_rfl)
def e71 : Int → AV := fun r => .v (.int .i64 r)
set_option maxHeartbeats 20000000 in
theorem w71 (cp : CallP) (fu : Nat) (x1 : T_infer_ask) (H123_0 : ∀ (a0 : T_infer_ask) r, infer_ask_lists fu a0 = some r → cp 123 [.agg (c_T_infer_ask a0)] = some (.fresh 8 r.length (fm c_T_Val r))) (H124_0 : ∀ (a0 : List T_Val) r, slices_ContainsFunc_api_Val_api_Val fu a0 (fun y0 => infer_ask_told_1 fu y0) = some r → cp 124 [.arr a0.length (fm c_T_Val a0), .fn 125 [] []] = some (.v (.bool r))) (H124_1 : ∀ (a0 : List T_Val) r, slices_ContainsFunc_api_Val_api_Val fu a0 (fun y0 => infer_ask_told_2 fu y0) = some r → cp 124 [.arr a0.length (fm c_T_Val a0), .fn 127 [] []] = some (.v (.bool r))) (H124_2 : ∀ (a0 : List T_Val) r, slices_ContainsFunc_api_Val_api_Val fu a0 (fun y0 => infer_ask_told_3 fu y0) = some r → cp 124 [.arr a0.length (fm c_T_Val a0), .fn 128 [] []] = some (.v (.bool r))) : J (go Tryz.prog noC cp noI 0 [] d71 fu (fin Tryz.prog [.tmp 2] [30]) (bodyOf Tryz.f71) (initE 0 [.agg (c_T_infer_ask x1)]) [] []) (infer_ask_told fu x1) e71 := by
 unfold infer_ask_told e71
 have da := d71_at
 refine J.spl (fun h1 => ?_) (fun h1 => ?_)
 ·refine J.bind fun x2 h2 => ?_
  have e_h2 := H123_0 _ _ h2
  try simp only [NN, NT, LN, simprocAttr, DT] at e_h2
  conv => arg 1; simp (disch := first | exact Zd | fail) only [bodyOf, Tryz.f71, ZZ, d71_at, simprocAttr, h1, e_h2]
  refine J.eq go_seq ?_
  refine J.bind fun x3 h3 => ?_
  have e_h3 := H124_0 _ _ h3
  try simp only [NN, NT, LN, simprocAttr, DT] at e_h3
  refine Jc ?_
  refine J.ite (fun h4 => ?_) (fun h4 => ?_)
  ·have h4' : x3 = true := h4
   refine J.some ?_
   exact Js
  ·have h4' : x3 = false := Bool.eq_false_iff.2 h4
   refine J.bind fun x4 h5 => ?_
   have e_h5 := H124_1 _ _ h5
   try simp only [NN, NT, LN, simprocAttr, DT] at e_h5
   refine Jc ?_
   refine J.ite (fun h6 => ?_) (fun h6 => ?_)
   ·have h6' : x4 = true := h6
    refine J.some ?_
    exact Js
   ·have h6' : x4 = false := Bool.eq_false_iff.2 h6
    refine Jc ?_
    refine J.eq go_seq ?_
    refine J.bind fun x5 h7 => ?_
    have e_h7 := H124_2 _ _ h7
    try simp only [NN, NT, LN, simprocAttr, DT] at e_h7
    refine Jc ?_
    refine J.eq ret_seq ?_
    refine Jc ?_
    refine J.ite (fun h8 => ?_) (fun h8 => ?_)
    ·have h8' : x5 = true := h8
     refine J.some ?_
     exact Js
    ·have h8' : x5 = false := Bool.eq_false_iff.2 h8
     refine Jc ?_
     refine J.eq ret_seq ?_
     refine J.some ?_
     exact Js
 ·refine J.chk fun h9 => ?_
  refine J.bind fun x6 h10 => ?_
  have e_h10 := H123_0 _ _ h10
  try simp only [NN, NT, LN, simprocAttr, DT] at e_h10
  conv => arg 1; simp (disch := first | exact Zd | fail) only [bodyOf, Tryz.f71, ZZ, d71_at, simprocAttr, h9, e_h10]
  refine J.eq go_seq ?_
  refine J.bind fun x7 h11 => ?_
  have e_h11 := H124_0 _ _ h11
  try simp only [NN, NT, LN, simprocAttr, DT] at e_h11
  refine Jc ?_
  refine J.ite (fun h12 => ?_) (fun h12 => ?_)
  ·have h12' : x7 = true := h12
   refine J.some ?_
   exact Js
  ·have h12' : x7 = false := Bool.eq_false_iff.2 h12
   refine J.bind fun x8 h13 => ?_
   have e_h13 := H124_1 _ _ h13
   try simp only [NN, NT, LN, simprocAttr, DT] at e_h13
   refine Jc ?_
   refine J.ite (fun h14 => ?_) (fun h14 => ?_)
   ·have h14' : x8 = true := h14
    refine J.some ?_
    exact Js
   ·have h14' : x8 = false := Bool.eq_false_iff.2 h14
    refine Jc ?_
    refine J.eq go_seq ?_
    refine J.bind fun x9 h15 => ?_
    have e_h15 := H124_2 _ _ h15
    try simp only [NN, NT, LN, simprocAttr, DT] at e_h15
    refine Jc ?_
    refine J.eq ret_seq ?_
    refine Jc ?_
    refine J.ite (fun h16 => ?_) (fun h16 => ?_)
    ·have h16' : x9 = true := h16
     refine J.some ?_
     exact Js
    ·have h16' : x9 = false := Bool.eq_false_iff.2 h16
     refine Jc ?_
     refine J.eq ret_seq ?_
     refine J.some ?_
     exact Js
noncomputable def t71 (fu : Nat) : CallP := orE 123 (mkC (fun (t : T_infer_ask) => ([.agg (c_T_infer_ask t)] : List AV)) (fun t => infer_ask_lists fu t) e123) (orE 124 (mkC (fun (t : List T_Val) => ([.arr t.length (fm c_T_Val t), .fn 125 [] []] : List AV)) (fun t => slices_ContainsFunc_api_Val_api_Val fu t (fun y0 => infer_ask_told_1 fu y0)) e124) (orE 124 (mkC (fun (t : List T_Val) => ([.arr t.length (fm c_T_Val t), .fn 127 [] []] : List AV)) (fun t => slices_ContainsFunc_api_Val_api_Val fu t (fun y0 => infer_ask_told_2 fu y0)) e124) (orE 124 (mkC (fun (t : List T_Val) => ([.arr t.length (fm c_T_Val t), .fn 128 [] []] : List AV)) (fun t => slices_ContainsFunc_api_Val_api_Val fu t (fun y0 => infer_ask_told_3 fu y0)) e124) (noP))))
theorem t71_ok (fu : Nat) : CpOK Tryz.prog (t71 fu ) := orE_ok (orE_ok (orE_ok (orE_ok (noP_ok) (mkC_ok (fun t b h => ok124 fu t (fun y0 => infer_ask_told_3 fu y0) 128 [] Capt.nil (fun y0 r h => ok128 fu y0  r h) b h))) (mkC_ok (fun t b h => ok124 fu t (fun y0 => infer_ask_told_2 fu y0) 127 [] Capt.nil (fun y0 r h => ok127 fu y0  r h) b h))) (mkC_ok (fun t b h => ok124 fu t (fun y0 => infer_ask_told_1 fu y0) 125 [] Capt.nil (fun y0 r h => ok125 fu y0  r h) b h))) (mkC_ok (fun t b h => ok123 fu t  b h))
theorem ok71 (fu : Nat) (x1 : T_infer_ask) (r) (h : infer_ask_told fu x1 = some r) : PureOK Tryz.prog 71 [.agg (c_T_infer_ask x1)] (e71 r) :=
  pure_J mixed (cp := t71 fu ) (t71_ok fu  ) noI_ok i71 (w71 _ fu x1  (fun a0 r h => orE_hit (mkC_at (a := a0) (by intro a b h; first | (exact rfl) | (simp only [INJ, IJ] at h; first | exact h | (simp_all [Prod.ext_iff]) )) h)) (fun a0 r h => orE_miss (by decide) (orE_hit (mkC_at (a := a0) (by intro a b h; first | (exact rfl) | (simp only [INJ, IJ] at h; first | exact h | (simp_all [Prod.ext_iff]) )) h))) (fun a0 r h => orE_miss (by decide) (orE_next (mkC_none (by intro t h; simp at h)) (orE_hit (mkC_at (a := a0) (by intro a b h; first | (exact rfl) | (simp only [INJ, IJ] at h; first | exact h | (simp_all [Prod.ext_iff]) )) h)))) (fun a0 r h => orE_miss (by decide) (orE_next (mkC_none (by intro t h; simp at h)) (orE_next (mkC_none (by intro t h; simp at h)) (orE_hit (mkC_at (a := a0) (by intro a b h; first | (exact rfl) | (simp only [INJ, IJ] at h; first | exact h | (simp_all [Prod.ext_iff]) )) h)))))) h
/-! 36: (lattice/infer.ask).wrong -/
open Aw (d36)
def d36_at := by have h := tabL Aw.d36.eq_1; simp only [AllAt, Nat.zero_add, Nat.reduceAdd] at h; exact h
theorem i36 : finfo Tryz.prog 36 d36 = some ⟨bodyOf Tryz.f36, [.tmp 2], [30]⟩ := finfo_at Tryz.func36 rfl (by kernel_rfl) (by kernel_rfl)
def e36 : Int → AV := fun r => .v (.int .i64 r)
set_option maxHeartbeats 20000000 in
theorem w36 (cp : CallP) (fu : Nat) (x1 : T_infer_ask) (H32_0 : ∀ (a0 : List Int) r, shape_Size fu a0 = some r → cp 32 [.arr a0.length (lm (ik .i64) a0)] = some (.tuple [.v (.int .i64 r.1), .v (.int .i64 r.2)])) (H68_0 : ∀ (a0 : T_infer_ask) (a1 : Int) r, infer_ask_has fu a0 a1 = some r → cp 68 [.agg (c_T_infer_ask a0), .v (.int .i64 a1)] = some (.v (.bool r))) (H69_0 : ∀ (a0 : T_infer_ask) r, infer_ask_typed fu a0 = some r → cp 69 [.agg (c_T_infer_ask a0)] = some (.v (.bool r))) (H70_0 : ∀ (a0 : T_infer_ask) r, infer_ask_attributes fu a0 = some r → cp 70 [.agg (c_T_infer_ask a0)] = some (.v (.bool r))) (H71_0 : ∀ (a0 : T_infer_ask) r, infer_ask_told fu a0 = some r → cp 71 [.agg (c_T_infer_ask a0)] = some (.v (.int .i64 r))) : J (go Tryz.prog noC cp noI 0 [] d36 fu (fin Tryz.prog [.tmp 2] [30]) (bodyOf Tryz.f36) (initE 0 [.agg (c_T_infer_ask x1)]) [] []) (infer_ask_wrong fu x1) e36 := by
 unfold infer_ask_wrong e36
 have da := d36_at
 refine J.spl (fun h1 => ?_) (fun h1 => ?_)
 ·conv => arg 1; simp (disch := first | exact Zd | fail) only [bodyOf, Tryz.f36, ZZ, d36_at, simprocAttr, h1]
  refine J.joinS (fun (t : Unit) => ([(1, .ptr (0, 1, 0) 0 0)], [((0, 1, 0), .bx true ([.v (.int .i64 63), .v (.int .i64 x1.fs.fAxis), .arr x1.fs.fAxes.length (lm (ik .i64) x1.fs.fAxes), .v (.bool x1.fs.fHasAxes), .v (.bool x1.fs.fKeep), .v (.bool x1.fs.fNoop), .v (.bool x1.fs.fLast), .v (.bool x1.fs.fZero), .arr x1.fs.fPerm.length (lm (ik .i64) x1.fs.fPerm), .v (.bool x1.fs.fHasPerm), .v (.int .u32 x1.fs.fAlpha), .v (.int .u32 x1.fs.fBeta), .v (.int .u32 x1.fs.fEpsilon), .v (.bool x1.fs.fLow), .v (.bool x1.fs.fHigh), .v (.bool x1.fs.fFmod), .v (.int .i64 x1.fs.fTo), .v (.int .i64 x1.fs.fMode), .v (.bool x1.fs.fTransA), .v (.bool x1.fs.fTransB), .v (.int .i64 x1.fs.fGroup), .arr x1.fs.fKernel.length (lm (ik .i64) x1.fs.fKernel), .arr x1.fs.fStrides.length (lm (ik .i64) x1.fs.fStrides), .arr x1.fs.fPads.length (lm (ik .i64) x1.fs.fPads), .arr x1.fs.fDilations.length (lm (ik .i64) x1.fs.fDilations), .v (.int .i64 x1.fs.fAuto), .v (.bool x1.fs.fCeil), .v (.bool x1.fs.fCount), .v (.int .i64 x1.fs.fBlock), .v (.int .i64 x1.fs.fStart), .v (.int .i64 x1.fs.fEnd), .v (.bool x1.fs.fHasEnd), .v (.int .i64 x1.fs.fValue.fType), .arr x1.fs.fValue.fDims.length (lm (ik .i64) x1.fs.fValue.fDims), .arr x1.fs.fValue.fF.length (lm (ik .u32) x1.fs.fValue.fF), .arr x1.fs.fValue.fI.length (lm (ik .i64) x1.fs.fValue.fI), .arr x1.fs.fValue.fB.length (lm (bk) x1.fs.fValue.fB), .arr x1.fin.length (fm c_T_Val x1.fin), .v (.int .i64 x1.fouts)]))])) (fun t => infer_ask_wrong.k1 fu x1) ?_ (fun hj1 => ?_)
  ·rintro ⟨⟩
   show J _ (infer_ask_wrong.k1 fu x1) _
   unfold infer_ask_wrong.k1
   refine J.eq go_seq ?_
   refine J.bind fun x2 h2 => ?_
   have e_h2 := H69_0 _ _ h2
   try simp only [NN, NT, LN, simprocAttr, DT] at e_h2
   refine Jc ?_
   refine J.ite (fun h3 => ?_) (fun h3 => ?_)
   ·have h3' : x2 = true := h3
    refine J.bind fun x3 h4 => ?_
    have e_h4 := H70_0 _ _ h4
    try simp only [NN, NT, LN, simprocAttr, DT] at e_h4
    refine Jc ?_
    refine J.ite (fun h5 => ?_) (fun h5 => ?_)
    ·have h5' : x3 = true := h5
     refine Jc ?_
     refine J.eq ret_seq ?_
     refine J.bind fun x4 h6 => ?_
     have e_h6 := H71_0 _ _ h6
     try simp only [NN, NT, LN, simprocAttr, DT] at e_h6
     refine J.some ?_
     exact Js
    ·have h5' : x3 = false := Bool.eq_false_iff.2 h5
     refine J.some ?_
     exact Js
   ·have h3' : x2 = false := Bool.eq_false_iff.2 h3
    refine J.some ?_
    exact Js
  ·refine J.hd jn_at ?_
   refine Jc ?_
   unfold infer_ask_wrong.W1
   refine J.loop (fun (s : Int) => ([(1, .ptr (0, 1, 0) 0 0), (8, .arr x1.fin.length (fm c_T_Val x1.fin)), (9, .v (.int .i64 (x1.fin.length : Int))), (10, .v (.int .i64 s))], [((0, 1, 0), .bx true ([.v (.int .i64 63), .v (.int .i64 x1.fs.fAxis), .arr x1.fs.fAxes.length (lm (ik .i64) x1.fs.fAxes), .v (.bool x1.fs.fHasAxes), .v (.bool x1.fs.fKeep), .v (.bool x1.fs.fNoop), .v (.bool x1.fs.fLast), .v (.bool x1.fs.fZero), .arr x1.fs.fPerm.length (lm (ik .i64) x1.fs.fPerm), .v (.bool x1.fs.fHasPerm), .v (.int .u32 x1.fs.fAlpha), .v (.int .u32 x1.fs.fBeta), .v (.int .u32 x1.fs.fEpsilon), .v (.bool x1.fs.fLow), .v (.bool x1.fs.fHigh), .v (.bool x1.fs.fFmod), .v (.int .i64 x1.fs.fTo), .v (.int .i64 x1.fs.fMode), .v (.bool x1.fs.fTransA), .v (.bool x1.fs.fTransB), .v (.int .i64 x1.fs.fGroup), .arr x1.fs.fKernel.length (lm (ik .i64) x1.fs.fKernel), .arr x1.fs.fStrides.length (lm (ik .i64) x1.fs.fStrides), .arr x1.fs.fPads.length (lm (ik .i64) x1.fs.fPads), .arr x1.fs.fDilations.length (lm (ik .i64) x1.fs.fDilations), .v (.int .i64 x1.fs.fAuto), .v (.bool x1.fs.fCeil), .v (.bool x1.fs.fCount), .v (.int .i64 x1.fs.fBlock), .v (.int .i64 x1.fs.fStart), .v (.int .i64 x1.fs.fEnd), .v (.bool x1.fs.fHasEnd), .v (.int .i64 x1.fs.fValue.fType), .arr x1.fs.fValue.fDims.length (lm (ik .i64) x1.fs.fValue.fDims), .arr x1.fs.fValue.fF.length (lm (ik .u32) x1.fs.fValue.fF), .arr x1.fs.fValue.fI.length (lm (ik .i64) x1.fs.fValue.fI), .arr x1.fs.fValue.fB.length (lm (bk) x1.fs.fValue.fB), .arr x1.fin.length (fm c_T_Val x1.fin), .v (.int .i64 x1.fouts)]))])) (fun next s => infer_ask_wrong.L1 fu x1 next s) (s0 := 0) ?_ ?_ ?_
   ·exact Ze
   ·exact Zh
   rintro nx1 k1 hn1 x8
   show J _ (infer_ask_wrong.L1 fu x1 nx1 x8) _
   unfold infer_ask_wrong.L1
   refine Jc ?_
   refine J.eq go_seq ?_
   refine Jc ?_
   refine J.ite (fun h7 => ?_) (fun h7 => ?_)
   ·have h7' := decide_eq_true h7
    have h7'' : decide ((x1.fin.length : Int) ≤ x8) = false := decide_eq_false (by omega)
    refine Jc ?_
    refine J.eq ret_seq ?_
    refine J.eq go_seq ?_
    refine J.at fun x12 h8 h9 h10 => ?_
    refine J.bind fun x13 h11 => ?_
    have e_h11 := H32_0 _ _ h11
    try simp only [NN, NT, LN, simprocAttr, DT] at e_h11
    conv => arg 1; simp (disch := first | exact Zd | fail) only [ZZ, d36_at, simprocAttr, h1, h7'', h7', fm_cut c_T_Val_len h10, fm_fit c_T_Val_len h10, fm_at c_T_Val_len h10, fm_at0 c_T_Val_len h10, e_h11]
    refine J.eq go_seq ?_
    refine J.bind fun x14 h12 => ?_
    have e_h12 := H68_0 _ _ _ h12
    try simp only [NN, NT, LN, simprocAttr, DT] at e_h12
    conv => arg 1; simp (disch := first | exact Zd | fail) only [ZZ, d36_at, simprocAttr, h1, h7'', h7', fm_cut c_T_Val_len h10, fm_fit c_T_Val_len h10, fm_at c_T_Val_len h10, fm_at0 c_T_Val_len h10, e_h11, e_h12]
    refine J.ite (fun h13 => ?_) (fun h13 => ?_)
    ·have h13' : x14 = true := h13
     conv => arg 1; simp (disch := first | exact Zd | fail) only [ZZ, d36_at, simprocAttr, h1, h7'', h7', fm_cut c_T_Val_len h10, fm_fit c_T_Val_len h10, fm_at c_T_Val_len h10, fm_at0 c_T_Val_len h10, e_h11, e_h12, h13']
     refine J.eq ret_seq ?_
     conv => arg 1; simp (disch := first | exact Zd | fail) only [ZZ, d36_at, simprocAttr, h1, h7'', h7', fm_cut c_T_Val_len h10, fm_fit c_T_Val_len h10, fm_at c_T_Val_len h10, fm_at0 c_T_Val_len h10, e_h11, e_h12, h13']
     refine J.ite (fun h14 => ?_) (fun h14 => ?_)
     ·have h14' := decide_eq_true h14
      conv => arg 1; simp (disch := first | exact Zd | fail) only [ZZ, d36_at, simprocAttr, h1, h7'', h7', fm_cut c_T_Val_len h10, fm_fit c_T_Val_len h10, fm_at c_T_Val_len h10, fm_at0 c_T_Val_len h10, e_h11, e_h12, h13', h14']
      refine J.eq ret_seq ?_
      conv => arg 1; simp (disch := first | exact Zd | fail) only [ZZ, d36_at, simprocAttr, h1, h7'', h7', fm_cut c_T_Val_len h10, fm_fit c_T_Val_len h10, fm_at c_T_Val_len h10, fm_at0 c_T_Val_len h10, e_h11, e_h12, h13', h14']
      refine J.next (s := wk .i64 (x8 + 1)) hn1 ?_ ?_
      ·exact Ze
      ·exact Zh
     ·have h14' := decide_eq_false h14
      refine J.some ?_
      simp (maxSteps := 20000000) (disch := first | exact Zd | fail) only [ZZ, d36_at, simprocAttr, h1, h7'', h7', fm_cut c_T_Val_len h10, fm_fit c_T_Val_len h10, fm_at c_T_Val_len h10, fm_at0 c_T_Val_len h10, e_h11, e_h12, h13', h14', FN]
    ·have h13' : x14 = false := Bool.eq_false_iff.2 h13
     conv => arg 1; simp (disch := first | exact Zd | fail) only [ZZ, d36_at, simprocAttr, h1, h7'', h7', fm_cut c_T_Val_len h10, fm_fit c_T_Val_len h10, fm_at c_T_Val_len h10, fm_at0 c_T_Val_len h10, e_h11, e_h12, h13']
     refine J.eq ret_seq ?_
     conv => arg 1; simp (disch := first | exact Zd | fail) only [ZZ, d36_at, simprocAttr, h1, h7'', h7', fm_cut c_T_Val_len h10, fm_fit c_T_Val_len h10, fm_at c_T_Val_len h10, fm_at0 c_T_Val_len h10, e_h11, e_h12, h13']
     refine J.eq ret_seq ?_
     conv => arg 1; simp (disch := first | exact Zd | fail) only [ZZ, d36_at, simprocAttr, h1, h7'', h7', fm_cut c_T_Val_len h10, fm_fit c_T_Val_len h10, fm_at c_T_Val_len h10, fm_at0 c_T_Val_len h10, e_h11, e_h12, h13']
     refine J.next (s := wk .i64 (x8 + 1)) hn1 ?_ ?_
     ·exact Ze
     ·exact Zh
   ·have h7' := decide_eq_false h7
    have h7'' : decide ((x1.fin.length : Int) ≤ x8) = true := decide_eq_true (by omega)
    refine Jc ?_
    refine J.jmp (t := ()) hj1 ?_ ?_
    ·exact Ze
    ·exact Zh
 ·refine J.chk fun h15 => ?_
  conv => arg 1; simp (disch := first | exact Zd | fail) only [bodyOf, Tryz.f36, ZZ, d36_at, simprocAttr, h15]
  refine J.joinS (fun (t : Unit) => ([(1, .ptr (0, 1, 0) 0 0)], [((0, 1, 0), .bx true ([.v (.int .i64 64), .v (.int .i64 x1.fs.fAxis), .arr x1.fs.fAxes.length (lm (ik .i64) x1.fs.fAxes), .v (.bool x1.fs.fHasAxes), .v (.bool x1.fs.fKeep), .v (.bool x1.fs.fNoop), .v (.bool x1.fs.fLast), .v (.bool x1.fs.fZero), .arr x1.fs.fPerm.length (lm (ik .i64) x1.fs.fPerm), .v (.bool x1.fs.fHasPerm), .v (.int .u32 x1.fs.fAlpha), .v (.int .u32 x1.fs.fBeta), .v (.int .u32 x1.fs.fEpsilon), .v (.bool x1.fs.fLow), .v (.bool x1.fs.fHigh), .v (.bool x1.fs.fFmod), .v (.int .i64 x1.fs.fTo), .v (.int .i64 x1.fs.fMode), .v (.bool x1.fs.fTransA), .v (.bool x1.fs.fTransB), .v (.int .i64 x1.fs.fGroup), .arr x1.fs.fKernel.length (lm (ik .i64) x1.fs.fKernel), .arr x1.fs.fStrides.length (lm (ik .i64) x1.fs.fStrides), .arr x1.fs.fPads.length (lm (ik .i64) x1.fs.fPads), .arr x1.fs.fDilations.length (lm (ik .i64) x1.fs.fDilations), .v (.int .i64 x1.fs.fAuto), .v (.bool x1.fs.fCeil), .v (.bool x1.fs.fCount), .v (.int .i64 x1.fs.fBlock), .v (.int .i64 x1.fs.fStart), .v (.int .i64 x1.fs.fEnd), .v (.bool x1.fs.fHasEnd), .v (.int .i64 x1.fs.fValue.fType), .arr x1.fs.fValue.fDims.length (lm (ik .i64) x1.fs.fValue.fDims), .arr x1.fs.fValue.fF.length (lm (ik .u32) x1.fs.fValue.fF), .arr x1.fs.fValue.fI.length (lm (ik .i64) x1.fs.fValue.fI), .arr x1.fs.fValue.fB.length (lm (bk) x1.fs.fValue.fB), .arr x1.fin.length (fm c_T_Val x1.fin), .v (.int .i64 x1.fouts)]))])) (fun t => infer_ask_wrong.k2 fu x1) ?_ (fun hj2 => ?_)
  ·rintro ⟨⟩
   show J _ (infer_ask_wrong.k2 fu x1) _
   unfold infer_ask_wrong.k2
   refine J.eq go_seq ?_
   refine J.bind fun x15 h16 => ?_
   have e_h16 := H69_0 _ _ h16
   try simp only [NN, NT, LN, simprocAttr, DT] at e_h16
   refine Jc ?_
   refine J.ite (fun h17 => ?_) (fun h17 => ?_)
   ·have h17' : x15 = true := h17
    refine J.bind fun x16 h18 => ?_
    have e_h18 := H70_0 _ _ h18
    try simp only [NN, NT, LN, simprocAttr, DT] at e_h18
    refine Jc ?_
    refine J.ite (fun h19 => ?_) (fun h19 => ?_)
    ·have h19' : x16 = true := h19
     refine Jc ?_
     refine J.eq ret_seq ?_
     refine J.bind fun x17 h20 => ?_
     have e_h20 := H71_0 _ _ h20
     try simp only [NN, NT, LN, simprocAttr, DT] at e_h20
     refine J.some ?_
     exact Js
    ·have h19' : x16 = false := Bool.eq_false_iff.2 h19
     refine J.some ?_
     exact Js
   ·have h17' : x15 = false := Bool.eq_false_iff.2 h17
    refine J.some ?_
    exact Js
  ·refine J.hd jn_at ?_
   refine Jc ?_
   unfold infer_ask_wrong.W2
   refine J.loop (fun (s : Int) => ([(1, .ptr (0, 1, 0) 0 0), (8, .arr x1.fin.length (fm c_T_Val x1.fin)), (9, .v (.int .i64 (x1.fin.length : Int))), (10, .v (.int .i64 s))], [((0, 1, 0), .bx true ([.v (.int .i64 64), .v (.int .i64 x1.fs.fAxis), .arr x1.fs.fAxes.length (lm (ik .i64) x1.fs.fAxes), .v (.bool x1.fs.fHasAxes), .v (.bool x1.fs.fKeep), .v (.bool x1.fs.fNoop), .v (.bool x1.fs.fLast), .v (.bool x1.fs.fZero), .arr x1.fs.fPerm.length (lm (ik .i64) x1.fs.fPerm), .v (.bool x1.fs.fHasPerm), .v (.int .u32 x1.fs.fAlpha), .v (.int .u32 x1.fs.fBeta), .v (.int .u32 x1.fs.fEpsilon), .v (.bool x1.fs.fLow), .v (.bool x1.fs.fHigh), .v (.bool x1.fs.fFmod), .v (.int .i64 x1.fs.fTo), .v (.int .i64 x1.fs.fMode), .v (.bool x1.fs.fTransA), .v (.bool x1.fs.fTransB), .v (.int .i64 x1.fs.fGroup), .arr x1.fs.fKernel.length (lm (ik .i64) x1.fs.fKernel), .arr x1.fs.fStrides.length (lm (ik .i64) x1.fs.fStrides), .arr x1.fs.fPads.length (lm (ik .i64) x1.fs.fPads), .arr x1.fs.fDilations.length (lm (ik .i64) x1.fs.fDilations), .v (.int .i64 x1.fs.fAuto), .v (.bool x1.fs.fCeil), .v (.bool x1.fs.fCount), .v (.int .i64 x1.fs.fBlock), .v (.int .i64 x1.fs.fStart), .v (.int .i64 x1.fs.fEnd), .v (.bool x1.fs.fHasEnd), .v (.int .i64 x1.fs.fValue.fType), .arr x1.fs.fValue.fDims.length (lm (ik .i64) x1.fs.fValue.fDims), .arr x1.fs.fValue.fF.length (lm (ik .u32) x1.fs.fValue.fF), .arr x1.fs.fValue.fI.length (lm (ik .i64) x1.fs.fValue.fI), .arr x1.fs.fValue.fB.length (lm (bk) x1.fs.fValue.fB), .arr x1.fin.length (fm c_T_Val x1.fin), .v (.int .i64 x1.fouts)]))])) (fun next s => infer_ask_wrong.L2 fu x1 next s) (s0 := 0) ?_ ?_ ?_
   ·exact Ze
   ·exact Zh
   rintro nx2 k2 hn2 x21
   show J _ (infer_ask_wrong.L2 fu x1 nx2 x21) _
   unfold infer_ask_wrong.L2
   refine Jc ?_
   refine J.eq go_seq ?_
   refine Jc ?_
   refine J.ite (fun h21 => ?_) (fun h21 => ?_)
   ·have h21' := decide_eq_true h21
    have h21'' : decide ((x1.fin.length : Int) ≤ x21) = false := decide_eq_false (by omega)
    refine Jc ?_
    refine J.eq ret_seq ?_
    refine J.eq go_seq ?_
    refine J.at fun x25 h22 h23 h24 => ?_
    refine J.bind fun x26 h25 => ?_
    have e_h25 := H32_0 _ _ h25
    try simp only [NN, NT, LN, simprocAttr, DT] at e_h25
    conv => arg 1; simp (disch := first | exact Zd | fail) only [ZZ, d36_at, simprocAttr, h15, h21'', h21', fm_cut c_T_Val_len h24, fm_fit c_T_Val_len h24, fm_at c_T_Val_len h24, fm_at0 c_T_Val_len h24, e_h25]
    refine J.eq go_seq ?_
    refine J.bind fun x27 h26 => ?_
    have e_h26 := H68_0 _ _ _ h26
    try simp only [NN, NT, LN, simprocAttr, DT] at e_h26
    conv => arg 1; simp (disch := first | exact Zd | fail) only [ZZ, d36_at, simprocAttr, h15, h21'', h21', fm_cut c_T_Val_len h24, fm_fit c_T_Val_len h24, fm_at c_T_Val_len h24, fm_at0 c_T_Val_len h24, e_h25, e_h26]
    refine J.ite (fun h27 => ?_) (fun h27 => ?_)
    ·have h27' : x27 = true := h27
     conv => arg 1; simp (disch := first | exact Zd | fail) only [ZZ, d36_at, simprocAttr, h15, h21'', h21', fm_cut c_T_Val_len h24, fm_fit c_T_Val_len h24, fm_at c_T_Val_len h24, fm_at0 c_T_Val_len h24, e_h25, e_h26, h27']
     refine J.eq ret_seq ?_
     conv => arg 1; simp (disch := first | exact Zd | fail) only [ZZ, d36_at, simprocAttr, h15, h21'', h21', fm_cut c_T_Val_len h24, fm_fit c_T_Val_len h24, fm_at c_T_Val_len h24, fm_at0 c_T_Val_len h24, e_h25, e_h26, h27']
     refine J.ite (fun h28 => ?_) (fun h28 => ?_)
     ·have h28' := decide_eq_true h28
      conv => arg 1; simp (disch := first | exact Zd | fail) only [ZZ, d36_at, simprocAttr, h15, h21'', h21', fm_cut c_T_Val_len h24, fm_fit c_T_Val_len h24, fm_at c_T_Val_len h24, fm_at0 c_T_Val_len h24, e_h25, e_h26, h27', h28']
      refine J.eq ret_seq ?_
      conv => arg 1; simp (disch := first | exact Zd | fail) only [ZZ, d36_at, simprocAttr, h15, h21'', h21', fm_cut c_T_Val_len h24, fm_fit c_T_Val_len h24, fm_at c_T_Val_len h24, fm_at0 c_T_Val_len h24, e_h25, e_h26, h27', h28']
      refine J.next (s := wk .i64 (x21 + 1)) hn2 ?_ ?_
      ·exact Ze
      ·exact Zh
     ·have h28' := decide_eq_false h28
      refine J.some ?_
      simp (maxSteps := 20000000) (disch := first | exact Zd | fail) only [ZZ, d36_at, simprocAttr, h15, h21'', h21', fm_cut c_T_Val_len h24, fm_fit c_T_Val_len h24, fm_at c_T_Val_len h24, fm_at0 c_T_Val_len h24, e_h25, e_h26, h27', h28', FN]
    ·have h27' : x27 = false := Bool.eq_false_iff.2 h27
     conv => arg 1; simp (disch := first | exact Zd | fail) only [ZZ, d36_at, simprocAttr, h15, h21'', h21', fm_cut c_T_Val_len h24, fm_fit c_T_Val_len h24, fm_at c_T_Val_len h24, fm_at0 c_T_Val_len h24, e_h25, e_h26, h27']
     refine J.eq ret_seq ?_
     conv => arg 1; simp (disch := first | exact Zd | fail) only [ZZ, d36_at, simprocAttr, h15, h21'', h21', fm_cut c_T_Val_len h24, fm_fit c_T_Val_len h24, fm_at c_T_Val_len h24, fm_at0 c_T_Val_len h24, e_h25, e_h26, h27']
     refine J.eq ret_seq ?_
     conv => arg 1; simp (disch := first | exact Zd | fail) only [ZZ, d36_at, simprocAttr, h15, h21'', h21', fm_cut c_T_Val_len h24, fm_fit c_T_Val_len h24, fm_at c_T_Val_len h24, fm_at0 c_T_Val_len h24, e_h25, e_h26, h27']
     refine J.next (s := wk .i64 (x21 + 1)) hn2 ?_ ?_
     ·exact Ze
     ·exact Zh
   ·have h21' := decide_eq_false h21
    have h21'' : decide ((x1.fin.length : Int) ≤ x21) = true := decide_eq_true (by omega)
    refine Jc ?_
    refine J.jmp (t := ()) hj2 ?_ ?_
    ·exact Ze
    ·exact Zh
noncomputable def t36 (fu : Nat) : CallP := orE 32 (mkC (fun (t : List Int) => ([.arr t.length (lm (ik .i64) t)] : List AV)) (fun t => shape_Size fu t) e32) (orE 68 (mkC (fun (t : T_infer_ask × Int) => ([.agg (c_T_infer_ask t.1), .v (.int .i64 t.2)] : List AV)) (fun t => infer_ask_has fu t.1 t.2) e68) (orE 69 (mkC (fun (t : T_infer_ask) => ([.agg (c_T_infer_ask t)] : List AV)) (fun t => infer_ask_typed fu t) e69) (orE 70 (mkC (fun (t : T_infer_ask) => ([.agg (c_T_infer_ask t)] : List AV)) (fun t => infer_ask_attributes fu t) e70) (orE 71 (mkC (fun (t : T_infer_ask) => ([.agg (c_T_infer_ask t)] : List AV)) (fun t => infer_ask_told fu t) e71) (noP)))))
theorem t36_ok (fu : Nat) : CpOK Tryz.prog (t36 fu ) := orE_ok (orE_ok (orE_ok (orE_ok (orE_ok (noP_ok) (mkC_ok (fun t b h => ok71 fu t  b h))) (mkC_ok (fun t b h => ok70 fu t  b h))) (mkC_ok (fun t b h => ok69 fu t  b h))) (mkC_ok (fun t b h => ok68 fu t.1 t.2  b h))) (mkC_ok (fun t b h => ok32 fu t  b h))
theorem ok36 (fu : Nat) (x1 : T_infer_ask) (r) (h : infer_ask_wrong fu x1 = some r) : PureOK Tryz.prog 36 [.agg (c_T_infer_ask x1)] (e36 r) :=
  pure_J mixed (cp := t36 fu ) (t36_ok fu  ) noI_ok i36 (w36 _ fu x1  (fun a0 r h => orE_hit (mkC_at (a := a0) (by intro a b h; first | (exact rfl) | (simp only [INJ, IJ] at h; first | exact h | (simp_all [Prod.ext_iff]) )) h)) (fun a0 a1 r h => orE_miss (by decide) (orE_hit (mkC_at (a := (a0, a1)) (by intro a b h; first | (exact rfl) | (simp only [INJ, IJ] at h; first | exact h | (simp_all [Prod.ext_iff]) )) h))) (fun a0 r h => orE_miss (by decide) (orE_miss (by decide) (orE_hit (mkC_at (a := a0) (by intro a b h; first | (exact rfl) | (simp only [INJ, IJ] at h; first | exact h | (simp_all [Prod.ext_iff]) )) h)))) (fun a0 r h => orE_miss (by decide) (orE_miss (by decide) (orE_miss (by decide) (orE_hit (mkC_at (a := a0) (by intro a b h; first | (exact rfl) | (simp only [INJ, IJ] at h; first | exact h | (simp_all [Prod.ext_iff]) )) h))))) (fun a0 r h => orE_miss (by decide) (orE_miss (by decide) (orE_miss (by decide) (orE_miss (by decide) (orE_hit (mkC_at (a := a0) (by intro a b h; first | (exact rfl) | (simp only [INJ, IJ] at h; first | exact h | (simp_all [Prod.ext_iff]) )) h))))))) h
/-! 83: lattice/infer.one -/
open Aw (d83)
def d83_at := by have h := tabL Aw.d83.eq_1; simp only [AllAt, Nat.zero_add, Nat.reduceAdd] at h; exact h
theorem i83 : finfo Tryz.prog 83 d83 = some ⟨bodyOf Tryz.f83, [.tmp 2, .tmp 3], [69, 30]⟩ := finfo_at Tryz.func83 rfl (by kernel_rfl) (by kernel_rfl)
def e83 : ((List (List Int)) × Int) → AV := fun r => .tuple [.arr r.1.length (lm (avl (ik .i64)) r.1), .v (.int .i64 r.2)]
set_option maxHeartbeats 20000000 in
theorem w83 (cp : CallP) (fu : Nat) (x1 : List Int) : J (go Tryz.prog noC cp noI 0 [] d83 fu (finS Tryz.prog [.tmp 2, .tmp 3] [69, 30]) (bodyOf Tryz.f83) (initE 0 [.arr x1.length (lm (ik .i64) x1)]) [] []) (infer_one fu x1) e83 := by
 unfold infer_one e83
 have da := d83_at
 refine J.some ?_
 simp (maxSteps := 20000000) (disch := first | exact Zd | fail) only [bodyOf, Tryz.f83, ZZ, d83_at, simprocAttr, SE, FN]
noncomputable def t83 (fu : Nat) : CallP := noP
theorem t83_ok (fu : Nat) : CpOK Tryz.prog (t83 fu ) := noP_ok
theorem ok83 (fu : Nat) (x1 : List Int) (r) (h : infer_one fu x1 = some r) : PureOK Tryz.prog 83 [.arr x1.length (lm (ik .i64) x1)] (e83 r) :=
  pureS_J mixed (cp := t83 fu ) (t83_ok fu  ) noI_ok i83 (w83 _ fu x1  ) h
/-! 75: lattice/infer.misfit -/
def d75 : List (Nat × List Nat) := [(0, [0, 1]), (0, []), (0, [])]
def d75_at := by have h := tabL d75.eq_1; simp only [AllAt, Nat.zero_add, Nat.reduceAdd] at h; exact h
theorem i75 : finfo Tryz.prog 75 d75 = some ⟨bodyOf Tryz.f75, [.tmp 0, .tmp 1], [69, 30]⟩ := finfo_at Tryz.func75 rfl (by kernel_rfl) (by kernel_rfl)
def e75 : ((List (List Int)) × Int) → AV := fun r => .tuple [.arr r.1.length (lm (avl (ik .i64)) r.1), .v (.int .i64 r.2)]
set_option maxHeartbeats 20000000 in
theorem w75 (cp : CallP) (fu : Nat) : J (go Tryz.prog noC cp noI 0 [] d75 fu (finS Tryz.prog [.tmp 0, .tmp 1] [69, 30]) (bodyOf Tryz.f75) (initE 0 []) [] []) (infer_misfit fu) e75 := by
 unfold infer_misfit e75
 have da := d75_at
 refine J.some ?_
 simp (maxSteps := 20000000) (disch := first | exact Zd | fail) only [bodyOf, Tryz.f75, ZZ, d75_at, simprocAttr, SE, FN]
noncomputable def t75 (fu : Nat) : CallP := noP
theorem t75_ok (fu : Nat) : CpOK Tryz.prog (t75 fu ) := noP_ok
theorem ok75 (fu : Nat) (r) (h : infer_misfit fu = some r) : PureOK Tryz.prog 75 [] (e75 r) :=
  pureS_J mixed (cp := t75 fu ) (t75_ok fu  ) noI_ok i75 (w75 _ fu   ) h
end Go.Av
