/- The walks of the plain functions. Made by a program of mine. Conditions: none. -/
import Derived.Test.YtoeineoiofjfdaaQ11S
import Derived.Test.YtoeineoiofjfdaaProg
set_option linter.unusedVariables false
set_option linter.unusedSimpArgs false
set_option linter.defProp false
set_option maxRecDepth 4000
open Go Go.Proofs
namespace Go.Av
theorem mixed : Try.prog.follows .mixedOrders = true := by kernel_rfl
def bodyOf (f : Func) : Code := f.body.getD .skip
theorem tv2 : tview Try.prog 2 = some (.int .i64) := by kernel_rfl
theorem ts2 : tsize Try.prog 2 = 1 := by kernel_rfl
theorem pt2 : ∀ {xs : List AV} {off : Nat}, part Try.prog xs 2 off = xs[off]? := part_one (fun _ _ h => by rw [tv2] at h; cases h) (by rw [tv2]; trivial)
theorem st2 : ∀ {h : Heap} {id : Id} {off ext : Nat} {k : IntKind} {z : Int}, stX Try.prog 2 h (.ptr id off ext) (.v (.int k z)) = (h.get id).bind (stI h id off ext (.v (.int k z))) := stX_int ts2
theorem tv3 : tview Try.prog 3 = some (.int .i64) := by kernel_rfl
theorem ts3 : tsize Try.prog 3 = 1 := by kernel_rfl
theorem pt3 : ∀ {xs : List AV} {off : Nat}, part Try.prog xs 3 off = xs[off]? := part_one (fun _ _ h => by rw [tv3] at h; cases h) (by rw [tv3]; trivial)
theorem st3 : ∀ {h : Heap} {id : Id} {off ext : Nat} {k : IntKind} {z : Int}, stX Try.prog 3 h (.ptr id off ext) (.v (.int k z)) = (h.get id).bind (stI h id off ext (.v (.int k z))) := stX_int ts3
theorem tv4 : tview Try.prog 4 = some (.bool) := by kernel_rfl
theorem ts4 : tsize Try.prog 4 = 1 := by kernel_rfl
theorem pt4 : ∀ {xs : List AV} {off : Nat}, part Try.prog xs 4 off = xs[off]? := part_one (fun _ _ h => by rw [tv4] at h; cases h) (by rw [tv4]; trivial)
theorem st4 : ∀ {h : Heap} {id : Id} {off ext : Nat} {k : IntKind} {z : Int}, stX Try.prog 4 h (.ptr id off ext) (.v (.int k z)) = (h.get id).bind (stI h id off ext (.v (.int k z))) := stX_int ts4
theorem sb4 : ∀ {h : Heap} {id : Id} {off ext : Nat} {z : Bool}, stX Try.prog 4 h (.ptr id off ext) (.v (.bool z)) = (h.get id).bind (stI h id off ext (.v (.bool z))) := stX_bool ts4
theorem tv5 : tview Try.prog 5 = some (.int .u8) := by kernel_rfl
theorem ts5 : tsize Try.prog 5 = 1 := by kernel_rfl
theorem pt5 : ∀ {xs : List AV} {off : Nat}, part Try.prog xs 5 off = xs[off]? := part_one (fun _ _ h => by rw [tv5] at h; cases h) (by rw [tv5]; trivial)
theorem st5 : ∀ {h : Heap} {id : Id} {off ext : Nat} {k : IntKind} {z : Int}, stX Try.prog 5 h (.ptr id off ext) (.v (.int k z)) = (h.get id).bind (stI h id off ext (.v (.int k z))) := stX_int ts5
theorem tv22 : tview Try.prog 22 = some (.slice 3 1 8) := by kernel_rfl
theorem ts22 : tsize Try.prog 22 = 1 := by kernel_rfl
theorem pt22 : ∀ {xs : List AV} {off : Nat}, part Try.prog xs 22 off = xs[off]? := part_one (fun _ _ h => by rw [tv22] at h; cases h) (by rw [tv22]; trivial)
theorem ia22 : ∀ {m : Nat} {xs : List AV} {i : Int} {g : Id → Option Blk}, 0 ≤ i → i < m → aindexAddr Try.prog 22 g (.arr m xs) i = some (.ref xs (i.toNat * 1)) := ia_any tv22
theorem io22 : ∀ {id : Id} {off m ext : Nat} {i : Int} {g : Id → Option Blk}, aindexAddr Try.prog 22 g (.own id off m ext) i = (g id).bind (iaB id off m ext 1 i) := ia_own tv22
theorem le22 : ∀ {x : AV}, abuiltin Try.prog .len #[22] [x] = (alen x).bind fun n => some (.v (.int .i64 n)) := len_at tv22
theorem tz3 : tzero Try.prog 3 = some [.v (.int .i64 0)] := by kernel_rfl
theorem mk22 : ∀ {a b : Int} {k k' : IntKind}, 0 ≤ a → a ≤ b → b ≤ 140737488355328 → b * 8 ≤ 140737488355328 → mkX Try.prog 22 (.v (.int k a)) (.v (.int k' b)) = some (.fresh 1 a.toNat (lm (ik .i64) (List.replicate a.toNat 0))) := mk_ik tv22 tz3
theorem ap22 : ∀ {lvl d : Nat} {h : Heap} {x y : AV}, appX Try.prog lvl d 22 22 h x y = (newsOf h.get y).bind (appN lvl d 1 8 h x (inner h.get y)) := appX_at tv22 tz3 rfl (by decide)
theorem bs22 : ∀ {len : Nat} {parts : List (Nat × AV)}, len * 1 ≤ 16777216 → abuildSlice Try.prog 22 len parts = (afill (elP 1) (List.replicate len [.v (.int .i64 0)]).flatten parts).bind (bslE 1 len) := fun h => bsl_at tv22 tz3 h rfl (by decide)
theorem st22 : ∀ {h : Heap} {id : Id} {off ext : Nat} {k : IntKind} {z : Int}, stX Try.prog 22 h (.ptr id off ext) (.v (.int k z)) = (h.get id).bind (stI h id off ext (.v (.int k z))) := stX_int ts22
theorem sa22 : ∀ {h : Heap} {id : Id} {off ext m : Nat} {xs : List AV}, stX Try.prog 22 h (.ptr id off ext) (.arr m xs) = (h.get id).bind (stI h id off ext (.arr m xs)) := stX_arr ts22
theorem so22 : ∀ {h : Heap} {id j : Id} {off ext o m x : Nat}, stX Try.prog 22 h (.ptr id off ext) (.own j o m x) = (h.get id).bind (stO h id off ext (.own j o m x)) := stX_own ts22
theorem tv25 : tview Try.prog 25 = some (.int .i64) := by kernel_rfl
theorem ts25 : tsize Try.prog 25 = 1 := by kernel_rfl
theorem pt25 : ∀ {xs : List AV} {off : Nat}, part Try.prog xs 25 off = xs[off]? := part_one (fun _ _ h => by rw [tv25] at h; cases h) (by rw [tv25]; trivial)
theorem st25 : ∀ {h : Heap} {id : Id} {off ext : Nat} {k : IntKind} {z : Int}, stX Try.prog 25 h (.ptr id off ext) (.v (.int k z)) = (h.get id).bind (stI h id off ext (.v (.int k z))) := stX_int ts25
theorem tv38 : tview Try.prog 38 = some (.slice 68 1 4) := by kernel_rfl
theorem ts38 : tsize Try.prog 38 = 1 := by kernel_rfl
theorem pt38 : ∀ {xs : List AV} {off : Nat}, part Try.prog xs 38 off = xs[off]? := part_one (fun _ _ h => by rw [tv38] at h; cases h) (by rw [tv38]; trivial)
theorem ia38 : ∀ {m : Nat} {xs : List AV} {i : Int} {g : Id → Option Blk}, 0 ≤ i → i < m → aindexAddr Try.prog 38 g (.arr m xs) i = some (.ref xs (i.toNat * 1)) := ia_any tv38
theorem io38 : ∀ {id : Id} {off m ext : Nat} {i : Int} {g : Id → Option Blk}, aindexAddr Try.prog 38 g (.own id off m ext) i = (g id).bind (iaB id off m ext 1 i) := ia_own tv38
theorem le38 : ∀ {x : AV}, abuiltin Try.prog .len #[38] [x] = (alen x).bind fun n => some (.v (.int .i64 n)) := len_at tv38
theorem tz68 : tzero Try.prog 68 = some [.v (.int .u32 0)] := by kernel_rfl
theorem mk38 : ∀ {a b : Int} {k k' : IntKind}, 0 ≤ a → a ≤ b → b ≤ 140737488355328 → b * 4 ≤ 140737488355328 → mkX Try.prog 38 (.v (.int k a)) (.v (.int k' b)) = some (.fresh 1 a.toNat (lm (ik .u32) (List.replicate a.toNat 0))) := mk_ik tv38 tz68
theorem ap38 : ∀ {lvl d : Nat} {h : Heap} {x y : AV}, appX Try.prog lvl d 38 38 h x y = (newsOf h.get y).bind (appN lvl d 1 4 h x (inner h.get y)) := appX_at tv38 tz68 rfl (by decide)
theorem bs38 : ∀ {len : Nat} {parts : List (Nat × AV)}, len * 1 ≤ 16777216 → abuildSlice Try.prog 38 len parts = (afill (elP 1) (List.replicate len [.v (.int .u32 0)]).flatten parts).bind (bslE 1 len) := fun h => bsl_at tv38 tz68 h rfl (by decide)
theorem st38 : ∀ {h : Heap} {id : Id} {off ext : Nat} {k : IntKind} {z : Int}, stX Try.prog 38 h (.ptr id off ext) (.v (.int k z)) = (h.get id).bind (stI h id off ext (.v (.int k z))) := stX_int ts38
theorem sa38 : ∀ {h : Heap} {id : Id} {off ext m : Nat} {xs : List AV}, stX Try.prog 38 h (.ptr id off ext) (.arr m xs) = (h.get id).bind (stI h id off ext (.arr m xs)) := stX_arr ts38
theorem so38 : ∀ {h : Heap} {id j : Id} {off ext o m x : Nat}, stX Try.prog 38 h (.ptr id off ext) (.own j o m x) = (h.get id).bind (stO h id off ext (.own j o m x)) := stX_own ts38
theorem tv39 : tview Try.prog 39 = some (.slice 2 1 8) := by kernel_rfl
theorem ts39 : tsize Try.prog 39 = 1 := by kernel_rfl
theorem pt39 : ∀ {xs : List AV} {off : Nat}, part Try.prog xs 39 off = xs[off]? := part_one (fun _ _ h => by rw [tv39] at h; cases h) (by rw [tv39]; trivial)
theorem ia39 : ∀ {m : Nat} {xs : List AV} {i : Int} {g : Id → Option Blk}, 0 ≤ i → i < m → aindexAddr Try.prog 39 g (.arr m xs) i = some (.ref xs (i.toNat * 1)) := ia_any tv39
theorem io39 : ∀ {id : Id} {off m ext : Nat} {i : Int} {g : Id → Option Blk}, aindexAddr Try.prog 39 g (.own id off m ext) i = (g id).bind (iaB id off m ext 1 i) := ia_own tv39
theorem le39 : ∀ {x : AV}, abuiltin Try.prog .len #[39] [x] = (alen x).bind fun n => some (.v (.int .i64 n)) := len_at tv39
theorem tz2 : tzero Try.prog 2 = some [.v (.int .i64 0)] := by kernel_rfl
theorem mk39 : ∀ {a b : Int} {k k' : IntKind}, 0 ≤ a → a ≤ b → b ≤ 140737488355328 → b * 8 ≤ 140737488355328 → mkX Try.prog 39 (.v (.int k a)) (.v (.int k' b)) = some (.fresh 1 a.toNat (lm (ik .i64) (List.replicate a.toNat 0))) := mk_ik tv39 tz2
theorem ap39 : ∀ {lvl d : Nat} {h : Heap} {x y : AV}, appX Try.prog lvl d 39 39 h x y = (newsOf h.get y).bind (appN lvl d 1 8 h x (inner h.get y)) := appX_at tv39 tz2 rfl (by decide)
theorem bs39 : ∀ {len : Nat} {parts : List (Nat × AV)}, len * 1 ≤ 16777216 → abuildSlice Try.prog 39 len parts = (afill (elP 1) (List.replicate len [.v (.int .i64 0)]).flatten parts).bind (bslE 1 len) := fun h => bsl_at tv39 tz2 h rfl (by decide)
theorem st39 : ∀ {h : Heap} {id : Id} {off ext : Nat} {k : IntKind} {z : Int}, stX Try.prog 39 h (.ptr id off ext) (.v (.int k z)) = (h.get id).bind (stI h id off ext (.v (.int k z))) := stX_int ts39
theorem sa39 : ∀ {h : Heap} {id : Id} {off ext m : Nat} {xs : List AV}, stX Try.prog 39 h (.ptr id off ext) (.arr m xs) = (h.get id).bind (stI h id off ext (.arr m xs)) := stX_arr ts39
theorem so39 : ∀ {h : Heap} {id j : Id} {off ext o m x : Nat}, stX Try.prog 39 h (.ptr id off ext) (.own j o m x) = (h.get id).bind (stO h id off ext (.own j o m x)) := stX_own ts39
theorem tv40 : tview Try.prog 40 = some (.slice 4 1 1) := by kernel_rfl
theorem ts40 : tsize Try.prog 40 = 1 := by kernel_rfl
theorem pt40 : ∀ {xs : List AV} {off : Nat}, part Try.prog xs 40 off = xs[off]? := part_one (fun _ _ h => by rw [tv40] at h; cases h) (by rw [tv40]; trivial)
theorem ia40 : ∀ {m : Nat} {xs : List AV} {i : Int} {g : Id → Option Blk}, 0 ≤ i → i < m → aindexAddr Try.prog 40 g (.arr m xs) i = some (.ref xs (i.toNat * 1)) := ia_any tv40
theorem io40 : ∀ {id : Id} {off m ext : Nat} {i : Int} {g : Id → Option Blk}, aindexAddr Try.prog 40 g (.own id off m ext) i = (g id).bind (iaB id off m ext 1 i) := ia_own tv40
theorem le40 : ∀ {x : AV}, abuiltin Try.prog .len #[40] [x] = (alen x).bind fun n => some (.v (.int .i64 n)) := len_at tv40
theorem tz4 : tzero Try.prog 4 = some [.v (.bool false)] := by kernel_rfl
theorem mk40 : ∀ {a b : Int} {k k' : IntKind}, 0 ≤ a → a ≤ b → b ≤ 140737488355328 → b * 1 ≤ 140737488355328 → mkX Try.prog 40 (.v (.int k a)) (.v (.int k' b)) = some (.fresh 1 a.toNat (lm bk (List.replicate a.toNat false))) := mk_bk tv40 tz4
theorem ap40 : ∀ {lvl d : Nat} {h : Heap} {x y : AV}, appX Try.prog lvl d 40 40 h x y = (newsOf h.get y).bind (appN lvl d 1 1 h x (inner h.get y)) := appX_at tv40 tz4 rfl (by decide)
theorem bs40 : ∀ {len : Nat} {parts : List (Nat × AV)}, len * 1 ≤ 16777216 → abuildSlice Try.prog 40 len parts = (afill (elP 1) (List.replicate len [.v (.bool false)]).flatten parts).bind (bslE 1 len) := fun h => bsl_at tv40 tz4 h rfl (by decide)
theorem st40 : ∀ {h : Heap} {id : Id} {off ext : Nat} {k : IntKind} {z : Int}, stX Try.prog 40 h (.ptr id off ext) (.v (.int k z)) = (h.get id).bind (stI h id off ext (.v (.int k z))) := stX_int ts40
theorem sa40 : ∀ {h : Heap} {id : Id} {off ext m : Nat} {xs : List AV}, stX Try.prog 40 h (.ptr id off ext) (.arr m xs) = (h.get id).bind (stI h id off ext (.arr m xs)) := stX_arr ts40
theorem so40 : ∀ {h : Heap} {id j : Id} {off ext o m x : Nat}, stX Try.prog 40 h (.ptr id off ext) (.own j o m x) = (h.get id).bind (stO h id off ext (.own j o m x)) := stX_own ts40
theorem tv42 : tview Try.prog 42 = some (.struct) := by kernel_rfl
theorem ts42 : tsize Try.prog 42 = 5 := by kernel_rfl
theorem pt42 : ∀ {xs : List AV} {off : Nat}, part Try.prog xs 42 off = if off + 5 ≤ xs.length then some (.agg ((xs.drop off).take 5)) else none := part_struct tv42 ts42
theorem sg42 : ∀ {h : Heap} {id : Id} {off : Nat} {ys : List AV}, ys.length = 5 → stX Try.prog 42 h (.ptr id off 0) (.agg ys) = (h.get id).bind (stH Try.prog 42 h id off ys) := stX_aggH ts42 (by decide)
theorem tv53 : tview Try.prog 53 = some (.slice 5 1 1) := by kernel_rfl
theorem ts53 : tsize Try.prog 53 = 1 := by kernel_rfl
theorem pt53 : ∀ {xs : List AV} {off : Nat}, part Try.prog xs 53 off = xs[off]? := part_one (fun _ _ h => by rw [tv53] at h; cases h) (by rw [tv53]; trivial)
theorem ia53 : ∀ {m : Nat} {xs : List AV} {i : Int} {g : Id → Option Blk}, 0 ≤ i → i < m → aindexAddr Try.prog 53 g (.arr m xs) i = some (.ref xs (i.toNat * 1)) := ia_any tv53
theorem io53 : ∀ {id : Id} {off m ext : Nat} {i : Int} {g : Id → Option Blk}, aindexAddr Try.prog 53 g (.own id off m ext) i = (g id).bind (iaB id off m ext 1 i) := ia_own tv53
theorem le53 : ∀ {x : AV}, abuiltin Try.prog .len #[53] [x] = (alen x).bind fun n => some (.v (.int .i64 n)) := len_at tv53
theorem tz5 : tzero Try.prog 5 = some [.v (.int .u8 0)] := by kernel_rfl
theorem ap53 : ∀ {lvl d : Nat} {h : Heap} {x y : AV}, appX Try.prog lvl d 53 53 h x y = (newsOf h.get y).bind (appN lvl d 1 1 h x (inner h.get y)) := appX_at tv53 tz5 rfl (by decide)
theorem bs53 : ∀ {len : Nat} {parts : List (Nat × AV)}, len * 1 ≤ 16777216 → abuildSlice Try.prog 53 len parts = (afill (elP 1) (List.replicate len [.v (.int .u8 0)]).flatten parts).bind (bslE 1 len) := fun h => bsl_at tv53 tz5 h rfl (by decide)
theorem ao53 : ∀ {off m ext : Nat} {id : Id} {lo hi : Option AV} {g : Id → Option Blk}, aslice Try.prog 53 g (.own id off m ext) lo hi = (g id).bind fun b => (sliceLim lo 0).bind fun l => (sliceLim hi m).bind fun r => slO id off ext 1 l r b := asl_own tv53
theorem as53 : ∀ {m : Nat} {xs : List AV} {lo hi : Option AV} {g : Id → Option Blk}, aslice Try.prog 53 g (.arr m xs) lo hi = (sliceLim lo 0).bind fun l => (sliceLim hi m).bind fun r => slA 1 m xs l r := asl_arr tv53
theorem st53 : ∀ {h : Heap} {id : Id} {off ext : Nat} {k : IntKind} {z : Int}, stX Try.prog 53 h (.ptr id off ext) (.v (.int k z)) = (h.get id).bind (stI h id off ext (.v (.int k z))) := stX_int ts53
theorem sa53 : ∀ {h : Heap} {id : Id} {off ext m : Nat} {xs : List AV}, stX Try.prog 53 h (.ptr id off ext) (.arr m xs) = (h.get id).bind (stI h id off ext (.arr m xs)) := stX_arr ts53
theorem so53 : ∀ {h : Heap} {id j : Id} {off ext o m x : Nat}, stX Try.prog 53 h (.ptr id off ext) (.own j o m x) = (h.get id).bind (stO h id off ext (.own j o m x)) := stX_own ts53
theorem tv68 : tview Try.prog 68 = some (.int .u32) := by kernel_rfl
theorem ts68 : tsize Try.prog 68 = 1 := by kernel_rfl
theorem pt68 : ∀ {xs : List AV} {off : Nat}, part Try.prog xs 68 off = xs[off]? := part_one (fun _ _ h => by rw [tv68] at h; cases h) (by rw [tv68]; trivial)
theorem st68 : ∀ {h : Heap} {id : Id} {off ext : Nat} {k : IntKind} {z : Int}, stX Try.prog 68 h (.ptr id off ext) (.v (.int k z)) = (h.get id).bind (stI h id off ext (.v (.int k z))) := stX_int ts68
theorem tv74 : tview Try.prog 74 = some (.int .u64) := by kernel_rfl
theorem ts74 : tsize Try.prog 74 = 1 := by kernel_rfl
theorem pt74 : ∀ {xs : List AV} {off : Nat}, part Try.prog xs 74 off = xs[off]? := part_one (fun _ _ h => by rw [tv74] at h; cases h) (by rw [tv74]; trivial)
theorem st74 : ∀ {h : Heap} {id : Id} {off ext : Nat} {k : IntKind} {z : Int}, stX Try.prog 74 h (.ptr id off ext) (.v (.int k z)) = (h.get id).bind (stI h id off ext (.v (.int k z))) := stX_int ts74
theorem fo42_0 : fieldOf Try.prog 42 0 = some (0, 3) := by kernel_rfl
theorem fp42_0 : ∀ {g : Id → Option Blk} {id : Id} {off ext : Nat}, afield Try.prog 42 g (.ptr id off ext) 0 = (g id).bind (fiB id off ext 0) := af_ptr fo42_0 (by rw [ts3]; decide)
theorem fr42_0 : ∀ {g : Id → Option Blk} {xs : List AV} {off : Nat}, afield Try.prog 42 g (.ref xs off) 0 = some (.ref xs (off + 0)) := af_ref fo42_0 (by rw [ts3]; decide)
theorem fo42_1 : fieldOf Try.prog 42 1 = some (1, 22) := by kernel_rfl
theorem fp42_1 : ∀ {g : Id → Option Blk} {id : Id} {off ext : Nat}, afield Try.prog 42 g (.ptr id off ext) 1 = (g id).bind (fiB id off ext 1) := af_ptr fo42_1 (by rw [ts22]; decide)
theorem fr42_1 : ∀ {g : Id → Option Blk} {xs : List AV} {off : Nat}, afield Try.prog 42 g (.ref xs off) 1 = some (.ref xs (off + 1)) := af_ref fo42_1 (by rw [ts22]; decide)
theorem fo42_2 : fieldOf Try.prog 42 2 = some (2, 38) := by kernel_rfl
theorem fp42_2 : ∀ {g : Id → Option Blk} {id : Id} {off ext : Nat}, afield Try.prog 42 g (.ptr id off ext) 2 = (g id).bind (fiB id off ext 2) := af_ptr fo42_2 (by rw [ts38]; decide)
theorem fr42_2 : ∀ {g : Id → Option Blk} {xs : List AV} {off : Nat}, afield Try.prog 42 g (.ref xs off) 2 = some (.ref xs (off + 2)) := af_ref fo42_2 (by rw [ts38]; decide)
theorem fo42_3 : fieldOf Try.prog 42 3 = some (3, 39) := by kernel_rfl
theorem fp42_3 : ∀ {g : Id → Option Blk} {id : Id} {off ext : Nat}, afield Try.prog 42 g (.ptr id off ext) 3 = (g id).bind (fiB id off ext 3) := af_ptr fo42_3 (by rw [ts39]; decide)
theorem fr42_3 : ∀ {g : Id → Option Blk} {xs : List AV} {off : Nat}, afield Try.prog 42 g (.ref xs off) 3 = some (.ref xs (off + 3)) := af_ref fo42_3 (by rw [ts39]; decide)
theorem fo42_4 : fieldOf Try.prog 42 4 = some (4, 40) := by kernel_rfl
theorem fp42_4 : ∀ {g : Id → Option Blk} {id : Id} {off ext : Nat}, afield Try.prog 42 g (.ptr id off ext) 4 = (g id).bind (fiB id off ext 4) := af_ptr fo42_4 (by rw [ts40]; decide)
theorem fr42_4 : ∀ {g : Id → Option Blk} {xs : List AV} {off : Nat}, afield Try.prog 42 g (.ref xs off) 4 = some (.ref xs (off + 4)) := af_ref fo42_4 (by rw [ts40]; decide)
theorem tz42 : tzero Try.prog 42 = some [.v (.int .i64 0), .v (.slice none 0 0), .v (.slice none 0 0), .v (.slice none 0 0), .v (.slice none 0 0)] := by kernel_rfl
theorem bl42 : ∀ {parts : List (Nat × AV)}, abuild Try.prog 42 parts = (afill (flP Try.prog 42) [.v (.int .i64 0), .v (.slice none 0 0), .v (.slice none 0 0), .v (.slice none 0 0), .v (.slice none 0 0)] parts).bind fun xs => some (.agg xs) := bld_struct tz42 tv42
theorem fl42_0 : flP Try.prog 42 0 = some (0, 1) := by unfold flP; rw [fo42_0]; rfl
theorem fl42_1 : flP Try.prog 42 1 = some (1, 1) := by unfold flP; rw [fo42_1]; rfl
theorem fl42_2 : flP Try.prog 42 2 = some (2, 1) := by unfold flP; rw [fo42_2]; rfl
theorem fl42_3 : flP Try.prog 42 3 = some (3, 1) := by unfold flP; rw [fo42_3]; rfl
theorem fl42_4 : flP Try.prog 42 4 = some (4, 1) := by unfold flP; rw [fo42_4]; rfl
theorem al3 {C : Cfg} {cp : CallP} {ci : CallI} {lvl : Nat} {e : Env} {h : Heap} {d : Option Tmp} : aop Try.prog C cp ci lvl e h d (.alloc 3) = qo lvl (d.getD 0) h (some (.newbx [.v (.int .i64 0)])) := aop_alloc tz3
theorem aq3 {C : Cfg} {cp : CallP} {g : Id → Option Blk} {e : Nat → Option AV} : aopQ Try.prog C cp e g (.alloc 3) = some (.newbx [.v (.int .i64 0)]) := aq_alloc tz3
theorem al42 {C : Cfg} {cp : CallP} {ci : CallI} {lvl : Nat} {e : Env} {h : Heap} {d : Option Tmp} : aop Try.prog C cp ci lvl e h d (.alloc 42) = qo lvl (d.getD 0) h (some (.newbx [.v (.int .i64 0), .v (.slice none 0 0), .v (.slice none 0 0), .v (.slice none 0 0), .v (.slice none 0 0)])) := aop_alloc tz42
theorem aq42 {C : Cfg} {cp : CallP} {g : Id → Option Blk} {e : Nat → Option AV} : aopQ Try.prog C cp e g (.alloc 42) = some (.newbx [.v (.int .i64 0), .v (.slice none 0 0), .v (.slice none 0 0), .v (.slice none 0 0), .v (.slice none 0 0)]) := aq_alloc tz42
theorem ab4 : ∀ {op : BinOp} {a b : Bool}, abin Try.prog op 4 (.v (.bool a)) (.v (.bool b)) = abinB op a b := abin_bool tv4
theorem cv2_74 : ∀ {k' : IntKind} {z : Int}, cvX Try.prog 2 74 (.v (.int k' z)) = some (.v (.int .u64 (wk .u64 z))) := cvX_at tv2 tv74
theorem cv5_74 : ∀ {k' : IntKind} {z : Int}, cvX Try.prog 5 74 (.v (.int k' z)) = some (.v (.int .u64 (wk .u64 z))) := cvX_at tv5 tv74
theorem cv68_74 : ∀ {k' : IntKind} {z : Int}, cvX Try.prog 68 74 (.v (.int k' z)) = some (.v (.int .u64 (wk .u64 z))) := cvX_at tv68 tv74
theorem cv74_2 : ∀ {k' : IntKind} {z : Int}, cvX Try.prog 74 2 (.v (.int k' z)) = some (.v (.int .i64 (wk .i64 z))) := cvX_at tv74 tv2
theorem cv74_5 : ∀ {k' : IntKind} {z : Int}, cvX Try.prog 74 5 (.v (.int k' z)) = some (.v (.int .u8 (wk .u8 z))) := cvX_at tv74 tv5
theorem cv74_68 : ∀ {k' : IntKind} {z : Int}, cvX Try.prog 74 68 (.v (.int k' z)) = some (.v (.int .u32 (wk .u32 z))) := cvX_at tv74 tv68
theorem sc22 : sliceCells Try.prog 4 22 = [2] := by kernel_rfl
theorem ty22 : typed Try.prog 22 (.v (.slice none 0 0)) = .fresh 1 0 [] := ty_nil sc22
theorem sc38 : sliceCells Try.prog 4 38 = [2] := by kernel_rfl
theorem ty38 : typed Try.prog 38 (.v (.slice none 0 0)) = .fresh 1 0 [] := ty_nil sc38
theorem sc39 : sliceCells Try.prog 4 39 = [2] := by kernel_rfl
theorem ty39 : typed Try.prog 39 (.v (.slice none 0 0)) = .fresh 1 0 [] := ty_nil sc39
theorem sc40 : sliceCells Try.prog 4 40 = [2] := by kernel_rfl
theorem ty40 : typed Try.prog 40 (.v (.slice none 0 0)) = .fresh 1 0 [] := ty_nil sc40
theorem sc42 : sliceCells Try.prog 4 42 = [0, 2, 2, 2, 2] := by kernel_rfl
theorem ty42 : ∀ {xs : List AV}, typed Try.prog 42 (.agg xs) = .agg (nilNew xs [0, 2, 2, 2, 2]) := ty_agg sc42
theorem sc53 : sliceCells Try.prog 4 53 = [2] := by kernel_rfl
theorem ty53 : typed Try.prog 53 (.v (.slice none 0 0)) = .fresh 1 0 [] := ty_nil sc53
theorem c_T_Tensor_at {x : T_Tensor} : c_T_Tensor x = [.v (.int .i64 x.fType), .arr x.fDims.length (lm (ik .i64) x.fDims), .arr x.fF.length (lm (ik .u32) x.fF), .arr x.fI.length (lm (ik .i64) x.fI), .arr x.fB.length (lm (bk) x.fB)] := rfl
theorem c_T_Tensor_inj : Inj c_T_Tensor := by
  intro a b h
  obtain ⟨a0, a1, a2, a3, a4⟩ := a
  obtain ⟨b0, b1, b2, b3, b4⟩ := b
  simp only [c_T_Tensor_at, INJ] at h
  simp_all
def TT0 := And.intro @ts2 <| And.intro @pt2 <| And.intro @st2 <| And.intro @ts3 <| And.intro @pt3 <| And.intro @st3 <| And.intro @ts4 <| And.intro @pt4 <| And.intro @sb4 <| And.intro @ts5 <| And.intro @pt5 <| And.intro @st5 <| And.intro @ts22 <| And.intro @pt22 <| And.intro @ia22 <| And.intro @io22 <| And.intro @le22 <| And.intro @mk22 <| And.intro @ap22 <| And.intro @bs22 <| And.intro @sa22 <| And.intro @so22 <| And.intro @ts25 <| And.intro @pt25 <| And.intro @st25 <| And.intro @ts38 <| And.intro @pt38 <| And.intro @ia38 <| And.intro @io38 <| And.intro @le38 <| And.intro @mk38 <| And.intro @ap38 <| And.intro @bs38 <| And.intro @sa38 <| And.intro @so38 <| And.intro @ts39 <| And.intro @pt39 <| And.intro @ia39 <| And.intro @io39 <| @le39
def TT1 := And.intro @mk39 <| And.intro @ap39 <| And.intro @bs39 <| And.intro @sa39 <| And.intro @so39 <| And.intro @ts40 <| And.intro @pt40 <| And.intro @ia40 <| And.intro @io40 <| And.intro @le40 <| And.intro @mk40 <| And.intro @ap40 <| And.intro @bs40 <| And.intro @sa40 <| And.intro @so40 <| And.intro @ts42 <| And.intro @pt42 <| And.intro @sg42 <| And.intro @ts53 <| And.intro @pt53 <| And.intro @ia53 <| And.intro @io53 <| And.intro @le53 <| And.intro @ap53 <| And.intro @bs53 <| And.intro @ao53 <| And.intro @as53 <| And.intro @sa53 <| And.intro @so53 <| And.intro @ts68 <| And.intro @pt68 <| And.intro @st68 <| And.intro @ts74 <| And.intro @pt74 <| And.intro @st74 <| And.intro @fo42_0 <| And.intro @fp42_0 <| And.intro @fr42_0 <| And.intro @fo42_1 <| @fp42_1
def TT2 := And.intro @fr42_1 <| And.intro @fo42_2 <| And.intro @fp42_2 <| And.intro @fr42_2 <| And.intro @fo42_3 <| And.intro @fp42_3 <| And.intro @fr42_3 <| And.intro @fo42_4 <| And.intro @fp42_4 <| And.intro @fr42_4 <| And.intro @bl42 <| And.intro @fl42_0 <| And.intro @fl42_1 <| And.intro @fl42_2 <| And.intro @fl42_3 <| And.intro @fl42_4 <| And.intro @al3 <| And.intro @aq3 <| And.intro @al42 <| And.intro @aq42 <| And.intro @ab4 <| And.intro @cv2_74 <| And.intro @cv5_74 <| And.intro @cv68_74 <| And.intro @cv74_2 <| And.intro @cv74_5 <| And.intro @cv74_68 <| And.intro @ty22 <| And.intro @ty38 <| And.intro @ty39 <| And.intro @ty40 <| And.intro @ty42 <| And.intro @ty53 <| And.intro @c_T_Tensor_at <| (fun l => @one_fm _ c_T_Tensor l c_T_Tensor_one)
def TT := And.intro @TT0 <| And.intro @TT1 <| @TT2
def OF := (fun l => @one_fm _ c_T_Tensor l c_T_Tensor_one)
def NT := @c_T_Tensor_at
/-! 34: lattice/tens.Width -/
def d34 : List (Nat × List Nat) := [(0, [2]), (0, [3]), (0, [0]), (0, []), (0, [5]), (0, []), (0, []), (0, []), (0, [7]), (0, []), (0, []), (0, []), (0, [9]), (0, []), (0, []), (0, []), (0, [])]
def d34_at := And.intro (show d34.getD 0 (0, []) = (0, [2]) from rfl) <| And.intro (show d34.getD 1 (0, []) = (0, [3]) from rfl) <| And.intro (show d34.getD 2 (0, []) = (0, [0]) from rfl) <| And.intro (show d34.getD 3 (0, []) = (0, []) from rfl) <| And.intro (show d34.getD 4 (0, []) = (0, [5]) from rfl) <| And.intro (show d34.getD 5 (0, []) = (0, []) from rfl) <| And.intro (show d34.getD 6 (0, []) = (0, []) from rfl) <| And.intro (show d34.getD 7 (0, []) = (0, []) from rfl) <| And.intro (show d34.getD 8 (0, []) = (0, [7]) from rfl) <| And.intro (show d34.getD 9 (0, []) = (0, []) from rfl) <| And.intro (show d34.getD 10 (0, []) = (0, []) from rfl) <| And.intro (show d34.getD 11 (0, []) = (0, []) from rfl) <| And.intro (show d34.getD 12 (0, []) = (0, [9]) from rfl) <| And.intro (show d34.getD 13 (0, []) = (0, []) from rfl) <| And.intro (show d34.getD 14 (0, []) = (0, []) from rfl) <| And.intro (show d34.getD 15 (0, []) = (0, []) from rfl) <| (show d34.getD 16 (0, []) = (0, []) from rfl)
theorem i34 : finfo Try.prog 34 d34 = some ⟨bodyOf Try.f34, [.tmp 2], [3]⟩ := finfo_at Try.func34 rfl (by kernel_rfl) (by kernel_rfl)
def e34 : Int → AV := fun r => .v (.int .i64 r)
set_option maxHeartbeats 1000000 in
theorem w34 (cp : CallP) (fu : Nat) (x1 : Int) : J (go Try.prog noC cp noI 0 [] d34 fu (fin Try.prog [.tmp 2] [3]) (bodyOf Try.f34) (initE 0 [.v (.int .i64 x1)]) [] []) (tens_Width fu x1) e34 := by
  unfold tens_Width e34
  conv => arg 1; simp (maxSteps := 1000000) (disch := first | assumption | decide | with_unfolding_all rfl | omega | (simp only [LN] <;> omega) | (simp only [RO, OF])) only [bodyOf, Try.f34, RR, RM, LN, TT, d34_at, ↓reduceIte, Nat.reduceEqDiff, Nat.reduceLT, Nat.reduceLeDiff, Nat.reduceAdd, Nat.reduceSub, Nat.reduceMul, Nat.reduceMod, Nat.reduceDiv, Nat.reduceBEq, RH]
  refine J.eq go_seq ?_
  conv => arg 1; simp (maxSteps := 1000000) (disch := first | assumption | decide | with_unfolding_all rfl | omega | (simp only [LN] <;> omega) | (simp only [RO, OF])) only [RR, RM, LN, TT, d34_at, ↓reduceIte, Nat.reduceEqDiff, Nat.reduceLT, Nat.reduceLeDiff, Nat.reduceAdd, Nat.reduceSub, Nat.reduceMul, Nat.reduceMod, Nat.reduceDiv, Nat.reduceBEq, RH]
  refine J.ite (fun h1 => ?_) (fun h1 => ?_)
  · have h1' := decide_eq_true h1
    refine J.some ?_
    simp (disch := first | assumption | decide | with_unfolding_all rfl | omega | (simp only [LN] <;> omega) | (simp only [RO, OF])) only [RR, RM, LN, TT, d34_at, ↓reduceIte, Nat.reduceEqDiff, Nat.reduceLT, Nat.reduceLeDiff, Nat.reduceAdd, Nat.reduceSub, Nat.reduceMul, Nat.reduceMod, Nat.reduceDiv, Nat.reduceBEq, RH, h1', FF, LN, NN, NT]
  · have h1' := decide_eq_false h1
    conv => arg 1; simp (maxSteps := 1000000) (disch := first | assumption | decide | with_unfolding_all rfl | omega | (simp only [LN] <;> omega) | (simp only [RO, OF])) only [RR, RM, LN, TT, d34_at, ↓reduceIte, Nat.reduceEqDiff, Nat.reduceLT, Nat.reduceLeDiff, Nat.reduceAdd, Nat.reduceSub, Nat.reduceMul, Nat.reduceMod, Nat.reduceDiv, Nat.reduceBEq, RH, h1']
    refine J.ite (fun h2 => ?_) (fun h2 => ?_)
    · have h2' := decide_eq_true h2
      refine J.some ?_
      simp (disch := first | assumption | decide | with_unfolding_all rfl | omega | (simp only [LN] <;> omega) | (simp only [RO, OF])) only [RR, RM, LN, TT, d34_at, ↓reduceIte, Nat.reduceEqDiff, Nat.reduceLT, Nat.reduceLeDiff, Nat.reduceAdd, Nat.reduceSub, Nat.reduceMul, Nat.reduceMod, Nat.reduceDiv, Nat.reduceBEq, RH, h1', h2', FF, LN, NN, NT]
    · have h2' := decide_eq_false h2
      conv => arg 1; simp (maxSteps := 1000000) (disch := first | assumption | decide | with_unfolding_all rfl | omega | (simp only [LN] <;> omega) | (simp only [RO, OF])) only [RR, RM, LN, TT, d34_at, ↓reduceIte, Nat.reduceEqDiff, Nat.reduceLT, Nat.reduceLeDiff, Nat.reduceAdd, Nat.reduceSub, Nat.reduceMul, Nat.reduceMod, Nat.reduceDiv, Nat.reduceBEq, RH, h1', h2']
      refine J.ite (fun h3 => ?_) (fun h3 => ?_)
      · have h3' := decide_eq_true h3
        refine J.some ?_
        simp (disch := first | assumption | decide | with_unfolding_all rfl | omega | (simp only [LN] <;> omega) | (simp only [RO, OF])) only [RR, RM, LN, TT, d34_at, ↓reduceIte, Nat.reduceEqDiff, Nat.reduceLT, Nat.reduceLeDiff, Nat.reduceAdd, Nat.reduceSub, Nat.reduceMul, Nat.reduceMod, Nat.reduceDiv, Nat.reduceBEq, RH, h1', h2', h3', FF, LN, NN, NT]
      · have h3' := decide_eq_false h3
        conv => arg 1; simp (maxSteps := 1000000) (disch := first | assumption | decide | with_unfolding_all rfl | omega | (simp only [LN] <;> omega) | (simp only [RO, OF])) only [RR, RM, LN, TT, d34_at, ↓reduceIte, Nat.reduceEqDiff, Nat.reduceLT, Nat.reduceLeDiff, Nat.reduceAdd, Nat.reduceSub, Nat.reduceMul, Nat.reduceMod, Nat.reduceDiv, Nat.reduceBEq, RH, h1', h2', h3']
        refine J.eq ret_seq ?_
        refine J.some ?_
        simp (disch := first | assumption | decide | with_unfolding_all rfl | omega | (simp only [LN] <;> omega) | (simp only [RO, OF])) only [RR, RM, LN, TT, d34_at, ↓reduceIte, Nat.reduceEqDiff, Nat.reduceLT, Nat.reduceLeDiff, Nat.reduceAdd, Nat.reduceSub, Nat.reduceMul, Nat.reduceMod, Nat.reduceDiv, Nat.reduceBEq, RH, h1', h2', h3', FF, LN, NN, NT]
noncomputable def t34 (fu : Nat) : CallP := noP
theorem t34_ok (fu : Nat) : CpOK Try.prog (t34 fu ) := noP_ok
theorem ok34 (fu : Nat) (x1 : Int) (r) (h : tens_Width fu x1 = some r) : PureOK Try.prog 34 [.v (.int .i64 x1)] (e34 r) :=
  pure_J mixed (cp := t34 fu ) (t34_ok fu  ) noI_ok i34 (w34 _ fu x1  ) h
/-! 61: lattice/tens.known -/
def d61 : List (Nat × List Nat) := [(0, [2]), (0, []), (0, [0, 3, 4, 5])]
def d61_at := And.intro (show d61.getD 0 (0, []) = (0, [2]) from rfl) <| And.intro (show d61.getD 1 (0, []) = (0, []) from rfl) <| (show d61.getD 2 (0, []) = (0, [0, 3, 4, 5]) from rfl)
theorem i61 : finfo Try.prog 61 d61 = some ⟨bodyOf Try.f61, [.tmp 2], [4]⟩ := finfo_at Try.func61 rfl (by kernel_rfl) (by kernel_rfl)
def e61 : Bool → AV := fun r => .v (.bool r)
set_option maxHeartbeats 1000000 in
theorem w61 (cp : CallP) (fu : Nat) (x1 : Int) (H34_0 : ∀ (a0 : Int) r, tens_Width fu a0 = some r → cp 34 [.v (.int .i64 a0)] = some (.v (.int .i64 r))) : J (go Try.prog noC cp noI 0 [] d61 fu (fin Try.prog [.tmp 2] [4]) (bodyOf Try.f61) (initE 0 [.v (.int .i64 x1)]) [] []) (tens_known fu x1) e61 := by
  unfold tens_known e61
  refine J.bind fun x2 h1 => ?_
  have e_h1 := H34_0 _ _ h1
  try simp only [NN, NT, LN] at e_h1
  refine J.some ?_
  simp (disch := first | assumption | decide | with_unfolding_all rfl | omega | (simp only [LN] <;> omega) | (simp only [RO, OF])) only [bodyOf, Try.f61, RR, RM, LN, TT, d61_at, ↓reduceIte, Nat.reduceEqDiff, Nat.reduceLT, Nat.reduceLeDiff, Nat.reduceAdd, Nat.reduceSub, Nat.reduceMul, Nat.reduceMod, Nat.reduceDiv, Nat.reduceBEq, RH, e_h1, FF, LN, NN, NT]
noncomputable def t61 (fu : Nat) : CallP := orE 34 (mkC (fun (t : Int) => ([.v (.int .i64 t)] : List AV)) (fun t => tens_Width fu t) e34) (noP)
theorem t61_ok (fu : Nat) : CpOK Try.prog (t61 fu ) := orE_ok (noP_ok) (mkC_ok (fun t b h => ok34 fu t  b h))
theorem ok61 (fu : Nat) (x1 : Int) (r) (h : tens_known fu x1 = some r) : PureOK Try.prog 61 [.v (.int .i64 x1)] (e61 r) :=
  pure_J mixed (cp := t61 fu ) (t61_ok fu  ) noI_ok i61 (w61 _ fu x1  (fun a0 r h => orE_hit (mkC_at (a := a0) (by intro a b h; first | (exact rfl) | (simp only [INJ, c_inj_iff c_T_Tensor_inj, lm_inj_iff (inj_avf (inj_fm c_T_Tensor_len (by decide) c_T_Tensor_inj)), fm_inj_iff (inj_fm c_T_Tensor_len (by decide) c_T_Tensor_inj)] at h; first | exact h | (simp_all [Prod.ext_iff]) )) h))) h
/-! 79: slices.IndexFunc[[]int,int] -/
def d79 : List (Nat × List Nat) := [(0, [4]), (0, [0, 1, 7, 8]), (0, [6]), (0, [5]), (0, []), (0, []), (0, [10]), (0, []), (0, [11, 12, 13, 14, 15]), (0, []), (0, [17]), (0, []), (0, [18]), (0, []), (0, [])]
def d79_at := And.intro (show d79.getD 0 (0, []) = (0, [4]) from rfl) <| And.intro (show d79.getD 1 (0, []) = (0, [0, 1, 7, 8]) from rfl) <| And.intro (show d79.getD 2 (0, []) = (0, [6]) from rfl) <| And.intro (show d79.getD 3 (0, []) = (0, [5]) from rfl) <| And.intro (show d79.getD 4 (0, []) = (0, []) from rfl) <| And.intro (show d79.getD 5 (0, []) = (0, []) from rfl) <| And.intro (show d79.getD 6 (0, []) = (0, [10]) from rfl) <| And.intro (show d79.getD 7 (0, []) = (0, []) from rfl) <| And.intro (show d79.getD 8 (0, []) = (0, [11, 12, 13, 14, 15]) from rfl) <| And.intro (show d79.getD 9 (0, []) = (0, []) from rfl) <| And.intro (show d79.getD 10 (0, []) = (0, [17]) from rfl) <| And.intro (show d79.getD 11 (0, []) = (0, []) from rfl) <| And.intro (show d79.getD 12 (0, []) = (0, [18]) from rfl) <| And.intro (show d79.getD 13 (0, []) = (0, []) from rfl) <| (show d79.getD 14 (0, []) = (0, []) from rfl)
theorem i79 : finfo Try.prog 79 d79 = some ⟨bodyOf Try.f79, [.tmp 4], [3]⟩ := finfo_at Try.func79 rfl (by kernel_rfl) (by kernel_rfl)
def e79 : Int → AV := fun r => .v (.int .i64 r)
set_option maxHeartbeats 1000000 in
theorem w79 (cp : CallP) (fu : Nat) (x1 : List Int) (p1 : Int → Option Bool) (fv_p1 : FuncId) (ca_p1 : List AV) (cap_p1 : Capt ca_p1) (hp_p1 : ∀ (y0 : Int) r, p1 y0 = some r → cp fv_p1 ((.v (.int .i64 y0)) :: ca_p1) = some (.v (.bool r))) : J (go Try.prog noC cp noI 0 [] d79 fu (fin Try.prog [.tmp 4] [3]) (bodyOf Try.f79) (initE 0 [.arr x1.length (lm (ik .i64) x1), .fn fv_p1 [] ca_p1]) [] []) (slices_IndexFunc_int fu x1 p1) e79 := by
  unfold slices_IndexFunc_int e79
  have c4_p1 := fun g => (cap_p1.1 g).1; have c3_p1 := fun g => (cap_p1.1 g).2.1; have b4_p1 := fun g => (cap_p1.1 g).2.2.1; have b3_p1 := fun g => (cap_p1.1 g).2.2.2; have nm_p1 := cap_p1.2
  conv => arg 1; simp (maxSteps := 1000000) (disch := first | assumption | decide | with_unfolding_all rfl | omega | (simp only [LN] <;> omega) | (simp only [RO, OF])) only [bodyOf, Try.f79, RR, RM, LN, TT, d79_at, ↓reduceIte, Nat.reduceEqDiff, Nat.reduceLT, Nat.reduceLeDiff, Nat.reduceAdd, Nat.reduceSub, Nat.reduceMul, Nat.reduceMod, Nat.reduceDiv, Nat.reduceBEq, RH, c4_p1, c3_p1, b4_p1, b3_p1, nm_p1]
  refine J.eq go_seq ?_
  conv => arg 1; simp (maxSteps := 1000000) (disch := first | assumption | decide | with_unfolding_all rfl | omega | (simp only [LN] <;> omega) | (simp only [RO, OF])) only [RR, RM, LN, TT, d79_at, ↓reduceIte, Nat.reduceEqDiff, Nat.reduceLT, Nat.reduceLeDiff, Nat.reduceAdd, Nat.reduceSub, Nat.reduceMul, Nat.reduceMod, Nat.reduceDiv, Nat.reduceBEq, RH, c4_p1, c3_p1, b4_p1, b3_p1, nm_p1]
  unfold slices_IndexFunc_int_W1
  refine J.loop (fun (s : Int) => ([(0, .arr x1.length (lm (ik .i64) x1)), (1, .fn fv_p1 [] ca_p1), (7, .v (.int .i64 (x1.length : Int))), (8, .v (.int .i64 s))], [])) (fun next s => slices_IndexFunc_int_L1 fu p1 x1 next s) (s0 := 0) ?_ ?_ ?_
  · first | rfl | (simp only [LN, NN, NT])
  · first | (simp (disch := first | assumption | decide | with_unfolding_all rfl | omega | (simp only [LN] <;> omega) | (simp only [RO, OF])) only [RR, ↓reduceIte, Nat.reduceEqDiff, Nat.reduceLT, Nat.reduceLeDiff, Nat.reduceAdd, Nat.reduceSub, Nat.reduceMul, Nat.reduceMod, Nat.reduceDiv, Nat.reduceBEq, LN, NN, NT]; done) | rfl
  rintro nx1 k1 hn1 x4
  show J _ (slices_IndexFunc_int_L1 fu p1 x1 nx1 x4) _
  unfold slices_IndexFunc_int_L1
  conv => arg 1; simp (maxSteps := 1000000) (disch := first | assumption | decide | with_unfolding_all rfl | omega | (simp only [LN] <;> omega) | (simp only [RO, OF])) only [RR, RM, LN, TT, d79_at, ↓reduceIte, Nat.reduceEqDiff, Nat.reduceLT, Nat.reduceLeDiff, Nat.reduceAdd, Nat.reduceSub, Nat.reduceMul, Nat.reduceMod, Nat.reduceDiv, Nat.reduceBEq, RH, c4_p1, c3_p1, b4_p1, b3_p1, nm_p1]
  refine J.eq go_seq ?_
  conv => arg 1; simp (maxSteps := 1000000) (disch := first | assumption | decide | with_unfolding_all rfl | omega | (simp only [LN] <;> omega) | (simp only [RO, OF])) only [RR, RM, LN, TT, d79_at, ↓reduceIte, Nat.reduceEqDiff, Nat.reduceLT, Nat.reduceLeDiff, Nat.reduceAdd, Nat.reduceSub, Nat.reduceMul, Nat.reduceMod, Nat.reduceDiv, Nat.reduceBEq, RH, c4_p1, c3_p1, b4_p1, b3_p1, nm_p1]
  refine J.ite (fun h1 => ?_) (fun h1 => ?_)
  · have h1' := decide_eq_true h1
    have h1'' : decide ((x1.length : Int) ≤ x4) = false := decide_eq_false (by omega)
    conv => arg 1; simp (maxSteps := 1000000) (disch := first | assumption | decide | with_unfolding_all rfl | omega | (simp only [LN] <;> omega) | (simp only [RO, OF])) only [RR, RM, LN, TT, d79_at, ↓reduceIte, Nat.reduceEqDiff, Nat.reduceLT, Nat.reduceLeDiff, Nat.reduceAdd, Nat.reduceSub, Nat.reduceMul, Nat.reduceMod, Nat.reduceDiv, Nat.reduceBEq, RH, c4_p1, c3_p1, b4_p1, b3_p1, nm_p1, h1'', h1']
    refine J.eq ret_seq ?_
    refine J.eq go_seq ?_
    refine J.at fun x7 h2 h3 h4 => ?_
    refine J.bind fun x8 h5 => ?_
    have e_h5 := hp_p1 _ _ h5
    conv => arg 1; simp (maxSteps := 1000000) (disch := first | assumption | decide | with_unfolding_all rfl | omega | (simp only [LN] <;> omega) | (simp only [RO, OF])) only [RR, RM, LN, TT, d79_at, ↓reduceIte, Nat.reduceEqDiff, Nat.reduceLT, Nat.reduceLeDiff, Nat.reduceAdd, Nat.reduceSub, Nat.reduceMul, Nat.reduceMod, Nat.reduceDiv, Nat.reduceBEq, RH, c4_p1, c3_p1, b4_p1, b3_p1, nm_p1, h1'', h1', lm_ik h4, e_h5]
    refine J.ite (fun h6 => ?_) (fun h6 => ?_)
    · have h6' : x8 = true := h6
      refine J.some ?_
      simp (disch := first | assumption | decide | with_unfolding_all rfl | omega | (simp only [LN] <;> omega) | (simp only [RO, OF])) only [RR, RM, LN, TT, d79_at, ↓reduceIte, Nat.reduceEqDiff, Nat.reduceLT, Nat.reduceLeDiff, Nat.reduceAdd, Nat.reduceSub, Nat.reduceMul, Nat.reduceMod, Nat.reduceDiv, Nat.reduceBEq, RH, c4_p1, c3_p1, b4_p1, b3_p1, nm_p1, h1'', h1', lm_ik h4, e_h5, h6', FF, LN, NN, NT]
    · have h6' : x8 = false := Bool.eq_false_iff.2 h6
      conv => arg 1; simp (maxSteps := 1000000) (disch := first | assumption | decide | with_unfolding_all rfl | omega | (simp only [LN] <;> omega) | (simp only [RO, OF])) only [RR, RM, LN, TT, d79_at, ↓reduceIte, Nat.reduceEqDiff, Nat.reduceLT, Nat.reduceLeDiff, Nat.reduceAdd, Nat.reduceSub, Nat.reduceMul, Nat.reduceMod, Nat.reduceDiv, Nat.reduceBEq, RH, c4_p1, c3_p1, b4_p1, b3_p1, nm_p1, h1'', h1', lm_ik h4, e_h5, h6']
      refine J.eq ret_seq ?_
      conv => arg 1; simp (maxSteps := 1000000) (disch := first | assumption | decide | with_unfolding_all rfl | omega | (simp only [LN] <;> omega) | (simp only [RO, OF])) only [RR, RM, LN, TT, d79_at, ↓reduceIte, Nat.reduceEqDiff, Nat.reduceLT, Nat.reduceLeDiff, Nat.reduceAdd, Nat.reduceSub, Nat.reduceMul, Nat.reduceMod, Nat.reduceDiv, Nat.reduceBEq, RH, c4_p1, c3_p1, b4_p1, b3_p1, nm_p1, h1'', h1', lm_ik h4, e_h5, h6']
      refine J.next (s := wk .i64 (x4 + 1)) hn1 ?_ ?_
      · first | rfl | (simp only [LN, NN, NT])
      · first | (simp (disch := first | assumption | decide | with_unfolding_all rfl | omega | (simp only [LN] <;> omega) | (simp only [RO, OF])) only [RR, ↓reduceIte, Nat.reduceEqDiff, Nat.reduceLT, Nat.reduceLeDiff, Nat.reduceAdd, Nat.reduceSub, Nat.reduceMul, Nat.reduceMod, Nat.reduceDiv, Nat.reduceBEq, LN, NN, NT]; done) | rfl
  · have h1' := decide_eq_false h1
    have h1'' : decide ((x1.length : Int) ≤ x4) = true := decide_eq_true (by omega)
    conv => arg 1; simp (maxSteps := 1000000) (disch := first | assumption | decide | with_unfolding_all rfl | omega | (simp only [LN] <;> omega) | (simp only [RO, OF])) only [RR, RM, LN, TT, d79_at, ↓reduceIte, Nat.reduceEqDiff, Nat.reduceLT, Nat.reduceLeDiff, Nat.reduceAdd, Nat.reduceSub, Nat.reduceMul, Nat.reduceMod, Nat.reduceDiv, Nat.reduceBEq, RH, c4_p1, c3_p1, b4_p1, b3_p1, nm_p1, h1'', h1']
    refine J.eq ret_seq ?_
    refine J.some ?_
    simp (disch := first | assumption | decide | with_unfolding_all rfl | omega | (simp only [LN] <;> omega) | (simp only [RO, OF])) only [RR, RM, LN, TT, d79_at, ↓reduceIte, Nat.reduceEqDiff, Nat.reduceLT, Nat.reduceLeDiff, Nat.reduceAdd, Nat.reduceSub, Nat.reduceMul, Nat.reduceMod, Nat.reduceDiv, Nat.reduceBEq, RH, c4_p1, c3_p1, b4_p1, b3_p1, nm_p1, h1'', h1', FF, LN, NN, NT]
noncomputable def t79 (fu : Nat) (x1 : List Int) (p1 : Int → Option Bool) (fv_p1 : FuncId) (ca_p1 : List AV) : CallP := orE fv_p1 (mkC (fun (t : Int) => ((.v (.int .i64 t)) :: ca_p1 : List AV)) (fun t => p1 t) (fun r => .v (.bool r))) (noP)
theorem t79_ok (fu : Nat) (x1 : List Int) (p1 : Int → Option Bool) (fv_p1 : FuncId) (ca_p1 : List AV) (cap_p1 : Capt ca_p1) (hp_p1 : ∀ (y0 : Int) r, p1 y0 = some r → PureOK Try.prog fv_p1 ((.v (.int .i64 y0)) :: ca_p1) (.v (.bool r))) : CpOK Try.prog (t79 fu x1 p1 fv_p1 ca_p1) := orE_ok (noP_ok) (mkC_ok (fun t b h => hp_p1 t b h))
theorem ok79 (fu : Nat) (x1 : List Int) (p1 : Int → Option Bool) (fv_p1 : FuncId) (ca_p1 : List AV) (cap_p1 : Capt ca_p1) (hp_p1 : ∀ (y0 : Int) r, p1 y0 = some r → PureOK Try.prog fv_p1 ((.v (.int .i64 y0)) :: ca_p1) (.v (.bool r))) (r) (h : slices_IndexFunc_int fu x1 p1 = some r) : PureOK Try.prog 79 [.arr x1.length (lm (ik .i64) x1), .fn fv_p1 [] ca_p1] (e79 r) :=
  pure_J mixed (cp := t79 fu x1 p1 fv_p1 ca_p1) (t79_ok fu x1 p1 fv_p1 ca_p1 cap_p1 hp_p1) noI_ok i79 (w79 _ fu x1 p1 fv_p1 ca_p1 cap_p1 (fun y0 r h => orE_hit (mkC_at (a := y0) (by intro a b h; first | (exact rfl) | (simp only [INJ, c_inj_iff c_T_Tensor_inj, lm_inj_iff (inj_avf (inj_fm c_T_Tensor_len (by decide) c_T_Tensor_inj)), fm_inj_iff (inj_fm c_T_Tensor_len (by decide) c_T_Tensor_inj)] at h; first | exact h | (simp_all [Prod.ext_iff]) )) h)) ) h
/-! 53: slices.ContainsFunc[[]int,int] -/
def d53 : List (Nat × List Nat) := [(0, [4]), (0, []), (0, [0, 1, 5, 6, 7, 8])]
def d53_at := And.intro (show d53.getD 0 (0, []) = (0, [4]) from rfl) <| And.intro (show d53.getD 1 (0, []) = (0, []) from rfl) <| (show d53.getD 2 (0, []) = (0, [0, 1, 5, 6, 7, 8]) from rfl)
theorem i53 : finfo Try.prog 53 d53 = some ⟨bodyOf Try.f53, [.tmp 4], [4]⟩ := finfo_at Try.func53 rfl (by kernel_rfl) (by kernel_rfl)
def e53 : Bool → AV := fun r => .v (.bool r)
set_option maxHeartbeats 1000000 in
theorem w53 (cp : CallP) (fu : Nat) (x1 : List Int) (p1 : Int → Option Bool) (fv_p1 : FuncId) (ca_p1 : List AV) (cap_p1 : Capt ca_p1) (hp_p1 : ∀ (y0 : Int) r, p1 y0 = some r → cp fv_p1 ((.v (.int .i64 y0)) :: ca_p1) = some (.v (.bool r))) (H79_0 : ∀ (a0 : List Int) r, slices_IndexFunc_int fu a0 p1 = some r → cp 79 [.arr a0.length (lm (ik .i64) a0), .fn fv_p1 [] ca_p1] = some (.v (.int .i64 r))) : J (go Try.prog noC cp noI 0 [] d53 fu (fin Try.prog [.tmp 4] [4]) (bodyOf Try.f53) (initE 0 [.arr x1.length (lm (ik .i64) x1), .fn fv_p1 [] ca_p1]) [] []) (slices_ContainsFunc_int fu x1 p1) e53 := by
  unfold slices_ContainsFunc_int e53
  have c4_p1 := fun g => (cap_p1.1 g).1; have c3_p1 := fun g => (cap_p1.1 g).2.1; have b4_p1 := fun g => (cap_p1.1 g).2.2.1; have b3_p1 := fun g => (cap_p1.1 g).2.2.2; have nm_p1 := cap_p1.2
  refine J.bind fun x2 h1 => ?_
  have e_h1 := H79_0 _ _ h1
  try simp only [NN, NT, LN] at e_h1
  refine J.some ?_
  simp (disch := first | assumption | decide | with_unfolding_all rfl | omega | (simp only [LN] <;> omega) | (simp only [RO, OF])) only [bodyOf, Try.f53, RR, RM, LN, TT, d53_at, ↓reduceIte, Nat.reduceEqDiff, Nat.reduceLT, Nat.reduceLeDiff, Nat.reduceAdd, Nat.reduceSub, Nat.reduceMul, Nat.reduceMod, Nat.reduceDiv, Nat.reduceBEq, RH, c4_p1, c3_p1, b4_p1, b3_p1, nm_p1, e_h1, FF, LN, NN, NT]
noncomputable def t53 (fu : Nat) (x1 : List Int) (p1 : Int → Option Bool) (fv_p1 : FuncId) (ca_p1 : List AV) : CallP := orE 79 (mkC (fun (t : List Int) => ([.arr t.length (lm (ik .i64) t), .fn fv_p1 [] ca_p1] : List AV)) (fun t => slices_IndexFunc_int fu t p1) e79) (orE fv_p1 (mkC (fun (t : Int) => ((.v (.int .i64 t)) :: ca_p1 : List AV)) (fun t => p1 t) (fun r => .v (.bool r))) (noP))
theorem t53_ok (fu : Nat) (x1 : List Int) (p1 : Int → Option Bool) (fv_p1 : FuncId) (ca_p1 : List AV) (cap_p1 : Capt ca_p1) (hp_p1 : ∀ (y0 : Int) r, p1 y0 = some r → PureOK Try.prog fv_p1 ((.v (.int .i64 y0)) :: ca_p1) (.v (.bool r))) : CpOK Try.prog (t53 fu x1 p1 fv_p1 ca_p1) := orE_ok (orE_ok (noP_ok) (mkC_ok (fun t b h => hp_p1 t b h))) (mkC_ok (fun t b h => ok79 fu t p1 fv_p1 ca_p1 cap_p1 hp_p1 b h))
theorem ok53 (fu : Nat) (x1 : List Int) (p1 : Int → Option Bool) (fv_p1 : FuncId) (ca_p1 : List AV) (cap_p1 : Capt ca_p1) (hp_p1 : ∀ (y0 : Int) r, p1 y0 = some r → PureOK Try.prog fv_p1 ((.v (.int .i64 y0)) :: ca_p1) (.v (.bool r))) (r) (h : slices_ContainsFunc_int fu x1 p1 = some r) : PureOK Try.prog 53 [.arr x1.length (lm (ik .i64) x1), .fn fv_p1 [] ca_p1] (e53 r) :=
  pure_J mixed (cp := t53 fu x1 p1 fv_p1 ca_p1) (t53_ok fu x1 p1 fv_p1 ca_p1 cap_p1 hp_p1) noI_ok i53 (w53 _ fu x1 p1 fv_p1 ca_p1 cap_p1 (fun y0 r h => orE_skip (fun hfv => mkC_none (by intro t h; simp at h)) (orE_hit (mkC_at (a := y0) (by intro a b h; first | (exact rfl) | (simp only [INJ, c_inj_iff c_T_Tensor_inj, lm_inj_iff (inj_avf (inj_fm c_T_Tensor_len (by decide) c_T_Tensor_inj)), fm_inj_iff (inj_fm c_T_Tensor_len (by decide) c_T_Tensor_inj)] at h; first | exact h | (simp_all [Prod.ext_iff]) )) h))) (fun a0 r h => orE_hit (mkC_at (a := a0) (by intro a b h; first | (exact rfl) | (simp only [INJ, c_inj_iff c_T_Tensor_inj, lm_inj_iff (inj_avf (inj_fm c_T_Tensor_len (by decide) c_T_Tensor_inj)), fm_inj_iff (inj_fm c_T_Tensor_len (by decide) c_T_Tensor_inj)] at h; first | exact h | (simp_all [Prod.ext_iff]) )) h))) h
/-! 54: lattice/shape.Size$1 -/
def d54 : List (Nat × List Nat) := [(0, [2]), (0, []), (0, [0, 3, 4])]
def d54_at := And.intro (show d54.getD 0 (0, []) = (0, [2]) from rfl) <| And.intro (show d54.getD 1 (0, []) = (0, []) from rfl) <| (show d54.getD 2 (0, []) = (0, [0, 3, 4]) from rfl)
theorem i54 : finfo Try.prog 54 d54 = some ⟨bodyOf Try.f54, [.tmp 2], [4]⟩ := finfo_at Try.func54 rfl (by kernel_rfl) (by kernel_rfl)
def e54 : Bool → AV := fun r => .v (.bool r)
set_option maxHeartbeats 1000000 in
theorem w54 (cp : CallP) (fu : Nat) (x1 : Int) : J (go Try.prog noC cp noI 0 [] d54 fu (fin Try.prog [.tmp 2] [4]) (bodyOf Try.f54) (initE 0 [.v (.int .i64 x1)]) [] []) (shape_Size_1 fu x1) e54 := by
  unfold shape_Size_1 e54
  refine J.some ?_
  simp (disch := first | assumption | decide | with_unfolding_all rfl | omega | (simp only [LN] <;> omega) | (simp only [RO, OF])) only [bodyOf, Try.f54, RR, RM, LN, TT, d54_at, ↓reduceIte, Nat.reduceEqDiff, Nat.reduceLT, Nat.reduceLeDiff, Nat.reduceAdd, Nat.reduceSub, Nat.reduceMul, Nat.reduceMod, Nat.reduceDiv, Nat.reduceBEq, RH, FF, LN, NN, NT]
noncomputable def t54 (fu : Nat) : CallP := noP
theorem t54_ok (fu : Nat) : CpOK Try.prog (t54 fu ) := noP_ok
theorem ok54 (fu : Nat) (x1 : Int) (r) (h : shape_Size_1 fu x1 = some r) : PureOK Try.prog 54 [.v (.int .i64 x1)] (e54 r) :=
  pure_J mixed (cp := t54 fu ) (t54_ok fu  ) noI_ok i54 (w54 _ fu x1  ) h
/-! 55: lattice/shape.Size$2 -/
def d55 : List (Nat × List Nat) := [(0, [2]), (0, []), (0, [0, 3, 4])]
def d55_at := And.intro (show d55.getD 0 (0, []) = (0, [2]) from rfl) <| And.intro (show d55.getD 1 (0, []) = (0, []) from rfl) <| (show d55.getD 2 (0, []) = (0, [0, 3, 4]) from rfl)
theorem i55 : finfo Try.prog 55 d55 = some ⟨bodyOf Try.f55, [.tmp 2], [4]⟩ := finfo_at Try.func55 rfl (by kernel_rfl) (by kernel_rfl)
def e55 : Bool → AV := fun r => .v (.bool r)
set_option maxHeartbeats 1000000 in
theorem w55 (cp : CallP) (fu : Nat) (x1 : Int) : J (go Try.prog noC cp noI 0 [] d55 fu (fin Try.prog [.tmp 2] [4]) (bodyOf Try.f55) (initE 0 [.v (.int .i64 x1)]) [] []) (shape_Size_2 fu x1) e55 := by
  unfold shape_Size_2 e55
  refine J.some ?_
  simp (disch := first | assumption | decide | with_unfolding_all rfl | omega | (simp only [LN] <;> omega) | (simp only [RO, OF])) only [bodyOf, Try.f55, RR, RM, LN, TT, d55_at, ↓reduceIte, Nat.reduceEqDiff, Nat.reduceLT, Nat.reduceLeDiff, Nat.reduceAdd, Nat.reduceSub, Nat.reduceMul, Nat.reduceMod, Nat.reduceDiv, Nat.reduceBEq, RH, FF, LN, NN, NT]
noncomputable def t55 (fu : Nat) : CallP := noP
theorem t55_ok (fu : Nat) : CpOK Try.prog (t55 fu ) := noP_ok
theorem ok55 (fu : Nat) (x1 : Int) (r) (h : shape_Size_2 fu x1 = some r) : PureOK Try.prog 55 [.v (.int .i64 x1)] (e55 r) :=
  pure_J mixed (cp := t55 fu ) (t55_ok fu  ) noI_ok i55 (w55 _ fu x1  ) h
/-! 80: slices.Index[[]int,int] -/
def d80 : List (Nat × List Nat) := [(0, [4]), (0, [0, 1, 7, 8]), (0, [6]), (0, [5]), (0, []), (0, []), (0, [10]), (0, []), (0, [11, 12, 13, 14, 15]), (0, []), (0, [17]), (0, []), (0, [18]), (0, []), (0, [])]
def d80_at := And.intro (show d80.getD 0 (0, []) = (0, [4]) from rfl) <| And.intro (show d80.getD 1 (0, []) = (0, [0, 1, 7, 8]) from rfl) <| And.intro (show d80.getD 2 (0, []) = (0, [6]) from rfl) <| And.intro (show d80.getD 3 (0, []) = (0, [5]) from rfl) <| And.intro (show d80.getD 4 (0, []) = (0, []) from rfl) <| And.intro (show d80.getD 5 (0, []) = (0, []) from rfl) <| And.intro (show d80.getD 6 (0, []) = (0, [10]) from rfl) <| And.intro (show d80.getD 7 (0, []) = (0, []) from rfl) <| And.intro (show d80.getD 8 (0, []) = (0, [11, 12, 13, 14, 15]) from rfl) <| And.intro (show d80.getD 9 (0, []) = (0, []) from rfl) <| And.intro (show d80.getD 10 (0, []) = (0, [17]) from rfl) <| And.intro (show d80.getD 11 (0, []) = (0, []) from rfl) <| And.intro (show d80.getD 12 (0, []) = (0, [18]) from rfl) <| And.intro (show d80.getD 13 (0, []) = (0, []) from rfl) <| (show d80.getD 14 (0, []) = (0, []) from rfl)
theorem i80 : finfo Try.prog 80 d80 = some ⟨bodyOf Try.f80, [.tmp 4], [3]⟩ := finfo_at Try.func80 rfl (by kernel_rfl) (by kernel_rfl)
def e80 : Int → AV := fun r => .v (.int .i64 r)
set_option maxHeartbeats 1000000 in
theorem w80 (cp : CallP) (fu : Nat) (x1 : List Int) (x2 : Int) : J (go Try.prog noC cp noI 0 [] d80 fu (fin Try.prog [.tmp 4] [3]) (bodyOf Try.f80) (initE 0 [.arr x1.length (lm (ik .i64) x1), .v (.int .i64 x2)]) [] []) (slices_Index_int fu x1 x2) e80 := by
  unfold slices_Index_int e80
  conv => arg 1; simp (maxSteps := 1000000) (disch := first | assumption | decide | with_unfolding_all rfl | omega | (simp only [LN] <;> omega) | (simp only [RO, OF])) only [bodyOf, Try.f80, RR, RM, LN, TT, d80_at, ↓reduceIte, Nat.reduceEqDiff, Nat.reduceLT, Nat.reduceLeDiff, Nat.reduceAdd, Nat.reduceSub, Nat.reduceMul, Nat.reduceMod, Nat.reduceDiv, Nat.reduceBEq, RH]
  refine J.eq go_seq ?_
  conv => arg 1; simp (maxSteps := 1000000) (disch := first | assumption | decide | with_unfolding_all rfl | omega | (simp only [LN] <;> omega) | (simp only [RO, OF])) only [RR, RM, LN, TT, d80_at, ↓reduceIte, Nat.reduceEqDiff, Nat.reduceLT, Nat.reduceLeDiff, Nat.reduceAdd, Nat.reduceSub, Nat.reduceMul, Nat.reduceMod, Nat.reduceDiv, Nat.reduceBEq, RH]
  unfold slices_Index_int_W1
  refine J.loop (fun (s : Int) => ([(0, .arr x1.length (lm (ik .i64) x1)), (1, .v (.int .i64 x2)), (7, .v (.int .i64 (x1.length : Int))), (8, .v (.int .i64 s))], [])) (fun next s => slices_Index_int_L1 fu x1 x2 next s) (s0 := 0) ?_ ?_ ?_
  · first | rfl | (simp only [LN, NN, NT])
  · first | (simp (disch := first | assumption | decide | with_unfolding_all rfl | omega | (simp only [LN] <;> omega) | (simp only [RO, OF])) only [RR, ↓reduceIte, Nat.reduceEqDiff, Nat.reduceLT, Nat.reduceLeDiff, Nat.reduceAdd, Nat.reduceSub, Nat.reduceMul, Nat.reduceMod, Nat.reduceDiv, Nat.reduceBEq, LN, NN, NT]; done) | rfl
  rintro nx1 k1 hn1 x4
  show J _ (slices_Index_int_L1 fu x1 x2 nx1 x4) _
  unfold slices_Index_int_L1
  conv => arg 1; simp (maxSteps := 1000000) (disch := first | assumption | decide | with_unfolding_all rfl | omega | (simp only [LN] <;> omega) | (simp only [RO, OF])) only [RR, RM, LN, TT, d80_at, ↓reduceIte, Nat.reduceEqDiff, Nat.reduceLT, Nat.reduceLeDiff, Nat.reduceAdd, Nat.reduceSub, Nat.reduceMul, Nat.reduceMod, Nat.reduceDiv, Nat.reduceBEq, RH]
  refine J.eq go_seq ?_
  conv => arg 1; simp (maxSteps := 1000000) (disch := first | assumption | decide | with_unfolding_all rfl | omega | (simp only [LN] <;> omega) | (simp only [RO, OF])) only [RR, RM, LN, TT, d80_at, ↓reduceIte, Nat.reduceEqDiff, Nat.reduceLT, Nat.reduceLeDiff, Nat.reduceAdd, Nat.reduceSub, Nat.reduceMul, Nat.reduceMod, Nat.reduceDiv, Nat.reduceBEq, RH]
  refine J.ite (fun h1 => ?_) (fun h1 => ?_)
  · have h1' := decide_eq_true h1
    have h1'' : decide ((x1.length : Int) ≤ x4) = false := decide_eq_false (by omega)
    conv => arg 1; simp (maxSteps := 1000000) (disch := first | assumption | decide | with_unfolding_all rfl | omega | (simp only [LN] <;> omega) | (simp only [RO, OF])) only [RR, RM, LN, TT, d80_at, ↓reduceIte, Nat.reduceEqDiff, Nat.reduceLT, Nat.reduceLeDiff, Nat.reduceAdd, Nat.reduceSub, Nat.reduceMul, Nat.reduceMod, Nat.reduceDiv, Nat.reduceBEq, RH, h1'', h1']
    refine J.eq ret_seq ?_
    refine J.eq go_seq ?_
    refine J.at fun x6 h2 h3 h4 => ?_
    conv => arg 1; simp (maxSteps := 1000000) (disch := first | assumption | decide | with_unfolding_all rfl | omega | (simp only [LN] <;> omega) | (simp only [RO, OF])) only [RR, RM, LN, TT, d80_at, ↓reduceIte, Nat.reduceEqDiff, Nat.reduceLT, Nat.reduceLeDiff, Nat.reduceAdd, Nat.reduceSub, Nat.reduceMul, Nat.reduceMod, Nat.reduceDiv, Nat.reduceBEq, RH, h1'', h1', lm_ik h4]
    refine J.ite (fun h5 => ?_) (fun h5 => ?_)
    · have h5' := decide_eq_true h5
      refine J.some ?_
      simp (disch := first | assumption | decide | with_unfolding_all rfl | omega | (simp only [LN] <;> omega) | (simp only [RO, OF])) only [RR, RM, LN, TT, d80_at, ↓reduceIte, Nat.reduceEqDiff, Nat.reduceLT, Nat.reduceLeDiff, Nat.reduceAdd, Nat.reduceSub, Nat.reduceMul, Nat.reduceMod, Nat.reduceDiv, Nat.reduceBEq, RH, h1'', h1', lm_ik h4, h5', FF, LN, NN, NT]
    · have h5' := decide_eq_false h5
      conv => arg 1; simp (maxSteps := 1000000) (disch := first | assumption | decide | with_unfolding_all rfl | omega | (simp only [LN] <;> omega) | (simp only [RO, OF])) only [RR, RM, LN, TT, d80_at, ↓reduceIte, Nat.reduceEqDiff, Nat.reduceLT, Nat.reduceLeDiff, Nat.reduceAdd, Nat.reduceSub, Nat.reduceMul, Nat.reduceMod, Nat.reduceDiv, Nat.reduceBEq, RH, h1'', h1', lm_ik h4, h5']
      refine J.eq ret_seq ?_
      conv => arg 1; simp (maxSteps := 1000000) (disch := first | assumption | decide | with_unfolding_all rfl | omega | (simp only [LN] <;> omega) | (simp only [RO, OF])) only [RR, RM, LN, TT, d80_at, ↓reduceIte, Nat.reduceEqDiff, Nat.reduceLT, Nat.reduceLeDiff, Nat.reduceAdd, Nat.reduceSub, Nat.reduceMul, Nat.reduceMod, Nat.reduceDiv, Nat.reduceBEq, RH, h1'', h1', lm_ik h4, h5']
      refine J.next (s := wk .i64 (x4 + 1)) hn1 ?_ ?_
      · first | rfl | (simp only [LN, NN, NT])
      · first | (simp (disch := first | assumption | decide | with_unfolding_all rfl | omega | (simp only [LN] <;> omega) | (simp only [RO, OF])) only [RR, ↓reduceIte, Nat.reduceEqDiff, Nat.reduceLT, Nat.reduceLeDiff, Nat.reduceAdd, Nat.reduceSub, Nat.reduceMul, Nat.reduceMod, Nat.reduceDiv, Nat.reduceBEq, LN, NN, NT]; done) | rfl
  · have h1' := decide_eq_false h1
    have h1'' : decide ((x1.length : Int) ≤ x4) = true := decide_eq_true (by omega)
    conv => arg 1; simp (maxSteps := 1000000) (disch := first | assumption | decide | with_unfolding_all rfl | omega | (simp only [LN] <;> omega) | (simp only [RO, OF])) only [RR, RM, LN, TT, d80_at, ↓reduceIte, Nat.reduceEqDiff, Nat.reduceLT, Nat.reduceLeDiff, Nat.reduceAdd, Nat.reduceSub, Nat.reduceMul, Nat.reduceMod, Nat.reduceDiv, Nat.reduceBEq, RH, h1'', h1']
    refine J.eq ret_seq ?_
    refine J.some ?_
    simp (disch := first | assumption | decide | with_unfolding_all rfl | omega | (simp only [LN] <;> omega) | (simp only [RO, OF])) only [RR, RM, LN, TT, d80_at, ↓reduceIte, Nat.reduceEqDiff, Nat.reduceLT, Nat.reduceLeDiff, Nat.reduceAdd, Nat.reduceSub, Nat.reduceMul, Nat.reduceMod, Nat.reduceDiv, Nat.reduceBEq, RH, h1'', h1', FF, LN, NN, NT]
noncomputable def t80 (fu : Nat) : CallP := noP
theorem t80_ok (fu : Nat) : CpOK Try.prog (t80 fu ) := noP_ok
theorem ok80 (fu : Nat) (x1 : List Int) (x2 : Int) (r) (h : slices_Index_int fu x1 x2 = some r) : PureOK Try.prog 80 [.arr x1.length (lm (ik .i64) x1), .v (.int .i64 x2)] (e80 r) :=
  pure_J mixed (cp := t80 fu ) (t80_ok fu  ) noI_ok i80 (w80 _ fu x1 x2  ) h
/-! 56: slices.Contains[[]int,int] -/
def d56 : List (Nat × List Nat) := [(0, [4]), (0, []), (0, [0, 1, 5, 6, 7, 8])]
def d56_at := And.intro (show d56.getD 0 (0, []) = (0, [4]) from rfl) <| And.intro (show d56.getD 1 (0, []) = (0, []) from rfl) <| (show d56.getD 2 (0, []) = (0, [0, 1, 5, 6, 7, 8]) from rfl)
theorem i56 : finfo Try.prog 56 d56 = some ⟨bodyOf Try.f56, [.tmp 4], [4]⟩ := finfo_at Try.func56 rfl (by kernel_rfl) (by kernel_rfl)
def e56 : Bool → AV := fun r => .v (.bool r)
set_option maxHeartbeats 1000000 in
theorem w56 (cp : CallP) (fu : Nat) (x1 : List Int) (x2 : Int) (H80_0 : ∀ (a0 : List Int) (a1 : Int) r, slices_Index_int fu a0 a1 = some r → cp 80 [.arr a0.length (lm (ik .i64) a0), .v (.int .i64 a1)] = some (.v (.int .i64 r))) : J (go Try.prog noC cp noI 0 [] d56 fu (fin Try.prog [.tmp 4] [4]) (bodyOf Try.f56) (initE 0 [.arr x1.length (lm (ik .i64) x1), .v (.int .i64 x2)]) [] []) (slices_Contains_int fu x1 x2) e56 := by
  unfold slices_Contains_int e56
  refine J.bind fun x3 h1 => ?_
  have e_h1 := H80_0 _ _ _ h1
  try simp only [NN, NT, LN] at e_h1
  refine J.some ?_
  simp (disch := first | assumption | decide | with_unfolding_all rfl | omega | (simp only [LN] <;> omega) | (simp only [RO, OF])) only [bodyOf, Try.f56, RR, RM, LN, TT, d56_at, ↓reduceIte, Nat.reduceEqDiff, Nat.reduceLT, Nat.reduceLeDiff, Nat.reduceAdd, Nat.reduceSub, Nat.reduceMul, Nat.reduceMod, Nat.reduceDiv, Nat.reduceBEq, RH, e_h1, FF, LN, NN, NT]
noncomputable def t56 (fu : Nat) : CallP := orE 80 (mkC (fun (t : (List Int) × Int) => ([.arr t.1.length (lm (ik .i64) t.1), .v (.int .i64 t.2)] : List AV)) (fun t => slices_Index_int fu t.1 t.2) e80) (noP)
theorem t56_ok (fu : Nat) : CpOK Try.prog (t56 fu ) := orE_ok (noP_ok) (mkC_ok (fun t b h => ok80 fu t.1 t.2  b h))
theorem ok56 (fu : Nat) (x1 : List Int) (x2 : Int) (r) (h : slices_Contains_int fu x1 x2 = some r) : PureOK Try.prog 56 [.arr x1.length (lm (ik .i64) x1), .v (.int .i64 x2)] (e56 r) :=
  pure_J mixed (cp := t56 fu ) (t56_ok fu  ) noI_ok i56 (w56 _ fu x1 x2  (fun a0 a1 r h => orE_hit (mkC_at (a := (a0, a1)) (by intro a b h; first | (exact rfl) | (simp only [INJ, c_inj_iff c_T_Tensor_inj, lm_inj_iff (inj_avf (inj_fm c_T_Tensor_len (by decide) c_T_Tensor_inj)), fm_inj_iff (inj_fm c_T_Tensor_len (by decide) c_T_Tensor_inj)] at h; first | exact h | (simp_all [Prod.ext_iff]) )) h))) h
/-! 15: lattice/shape.Size -/
def d15 : List (Nat × List Nat) := [(0, [2, 3]), (0, [18, 19, 20]), (0, [7]), (0, []), (0, []), (0, []), (0, [9, 10, 11, 12, 13, 14]), (0, []), (0, []), (0, []), (0, [16]), (0, []), (0, []), (0, []), (0, []), (0, []), (0, [0]), (0, []), (0, []), (0, []), (0, [22, 23]), (0, []), (0, [24, 25, 26]), (0, []), (0, []), (0, []), (0, [6, 28, 29, 30]), (0, []), (0, [31]), (0, []), (0, [4, 32])]
def d15_at := And.intro (show d15.getD 0 (0, []) = (0, [2, 3]) from rfl) <| And.intro (show d15.getD 1 (0, []) = (0, [18, 19, 20]) from rfl) <| And.intro (show d15.getD 2 (0, []) = (0, [7]) from rfl) <| And.intro (show d15.getD 3 (0, []) = (0, []) from rfl) <| And.intro (show d15.getD 4 (0, []) = (0, []) from rfl) <| And.intro (show d15.getD 5 (0, []) = (0, []) from rfl) <| And.intro (show d15.getD 6 (0, []) = (0, [9, 10, 11, 12, 13, 14]) from rfl) <| And.intro (show d15.getD 7 (0, []) = (0, []) from rfl) <| And.intro (show d15.getD 8 (0, []) = (0, []) from rfl) <| And.intro (show d15.getD 9 (0, []) = (0, []) from rfl) <| And.intro (show d15.getD 10 (0, []) = (0, [16]) from rfl) <| And.intro (show d15.getD 11 (0, []) = (0, []) from rfl) <| And.intro (show d15.getD 12 (0, []) = (0, []) from rfl) <| And.intro (show d15.getD 13 (0, []) = (0, []) from rfl) <| And.intro (show d15.getD 14 (0, []) = (0, []) from rfl) <| And.intro (show d15.getD 15 (0, []) = (0, []) from rfl) <| And.intro (show d15.getD 16 (0, []) = (0, [0]) from rfl) <| And.intro (show d15.getD 17 (0, []) = (0, []) from rfl) <| And.intro (show d15.getD 18 (0, []) = (0, []) from rfl) <| And.intro (show d15.getD 19 (0, []) = (0, []) from rfl) <| And.intro (show d15.getD 20 (0, []) = (0, [22, 23]) from rfl) <| And.intro (show d15.getD 21 (0, []) = (0, []) from rfl) <| And.intro (show d15.getD 22 (0, []) = (0, [24, 25, 26]) from rfl) <| And.intro (show d15.getD 23 (0, []) = (0, []) from rfl) <| And.intro (show d15.getD 24 (0, []) = (0, []) from rfl) <| And.intro (show d15.getD 25 (0, []) = (0, []) from rfl) <| And.intro (show d15.getD 26 (0, []) = (0, [6, 28, 29, 30]) from rfl) <| And.intro (show d15.getD 27 (0, []) = (0, []) from rfl) <| And.intro (show d15.getD 28 (0, []) = (0, [31]) from rfl) <| And.intro (show d15.getD 29 (0, []) = (0, []) from rfl) <| (show d15.getD 30 (0, []) = (0, [4, 32]) from rfl)
theorem i15 : finfo Try.prog 15 d15 = some ⟨bodyOf Try.f15, [.tmp 2, .tmp 3], [3, 25]⟩ := finfo_at Try.func15 rfl (by kernel_rfl) (by kernel_rfl)
def e15 : (Int × Int) → AV := fun r => .tuple [.v (.int .i64 r.1), .v (.int .i64 r.2)]
set_option maxHeartbeats 1000000 in
theorem w15 (cp : CallP) (fu : Nat) (x1 : List Int) (H53_0 : ∀ (a0 : List Int) r, slices_ContainsFunc_int fu a0 (fun y0 => shape_Size_1 fu y0) = some r → cp 53 [.arr a0.length (lm (ik .i64) a0), .fn 54 [] []] = some (.v (.bool r))) (H53_1 : ∀ (a0 : List Int) r, slices_ContainsFunc_int fu a0 (fun y0 => shape_Size_2 fu y0) = some r → cp 53 [.arr a0.length (lm (ik .i64) a0), .fn 55 [] []] = some (.v (.bool r))) (H56_0 : ∀ (a0 : List Int) (a1 : Int) r, slices_Contains_int fu a0 a1 = some r → cp 56 [.arr a0.length (lm (ik .i64) a0), .v (.int .i64 a1)] = some (.v (.bool r))) : J (go Try.prog noC cp noI 0 [] d15 fu (fin Try.prog [.tmp 2, .tmp 3] [3, 25]) (bodyOf Try.f15) (initE 0 [.arr x1.length (lm (ik .i64) x1)]) [] []) (shape_Size fu x1) e15 := by
  unfold shape_Size e15
  conv => arg 1; simp (maxSteps := 1000000) (disch := first | assumption | decide | with_unfolding_all rfl | omega | (simp only [LN] <;> omega) | (simp only [RO, OF])) only [bodyOf, Try.f15, RR, RM, LN, TT, d15_at, ↓reduceIte, Nat.reduceEqDiff, Nat.reduceLT, Nat.reduceLeDiff, Nat.reduceAdd, Nat.reduceSub, Nat.reduceMul, Nat.reduceMod, Nat.reduceDiv, Nat.reduceBEq, RH]
  refine J.eq go_seq ?_
  refine J.bind fun x2 h1 => ?_
  have e_h1 := H53_0 _ _ h1
  try simp only [NN, NT, LN] at e_h1
  conv => arg 1; simp (maxSteps := 1000000) (disch := first | assumption | decide | with_unfolding_all rfl | omega | (simp only [LN] <;> omega) | (simp only [RO, OF])) only [RR, RM, LN, TT, d15_at, ↓reduceIte, Nat.reduceEqDiff, Nat.reduceLT, Nat.reduceLeDiff, Nat.reduceAdd, Nat.reduceSub, Nat.reduceMul, Nat.reduceMod, Nat.reduceDiv, Nat.reduceBEq, RH, e_h1]
  refine J.ite (fun h2 => ?_) (fun h2 => ?_)
  · have h2' : x2 = true := h2
    refine J.some ?_
    simp (disch := first | assumption | decide | with_unfolding_all rfl | omega | (simp only [LN] <;> omega) | (simp only [RO, OF])) only [RR, RM, LN, TT, d15_at, ↓reduceIte, Nat.reduceEqDiff, Nat.reduceLT, Nat.reduceLeDiff, Nat.reduceAdd, Nat.reduceSub, Nat.reduceMul, Nat.reduceMod, Nat.reduceDiv, Nat.reduceBEq, RH, e_h1, h2', FF, LN, NN, NT]
  · have h2' : x2 = false := Bool.eq_false_iff.2 h2
    conv => arg 1; simp (maxSteps := 1000000) (disch := first | assumption | decide | with_unfolding_all rfl | omega | (simp only [LN] <;> omega) | (simp only [RO, OF])) only [RR, RM, LN, TT, d15_at, ↓reduceIte, Nat.reduceEqDiff, Nat.reduceLT, Nat.reduceLeDiff, Nat.reduceAdd, Nat.reduceSub, Nat.reduceMul, Nat.reduceMod, Nat.reduceDiv, Nat.reduceBEq, RH, e_h1, h2']
    refine J.eq ret_seq ?_
    refine J.joinS (fun (t : Unit) => ([(0, .arr x1.length (lm (ik .i64) x1))], [])) (fun t => shape_Size_k1 fu x1) ?_ (fun hj1 => ?_)
    · rintro ⟨⟩
      show J _ (shape_Size_k1 fu x1) _
      unfold shape_Size_k1
      refine J.eq go_seq ?_
      refine J.bind fun x3 h3 => ?_
      have e_h3 := H56_0 _ _ _ h3
      try simp only [NN, NT, LN] at e_h3
      conv => arg 1; simp (maxSteps := 1000000) (disch := first | assumption | decide | with_unfolding_all rfl | omega | (simp only [LN] <;> omega) | (simp only [RO, OF])) only [RR, RM, LN, TT, d15_at, ↓reduceIte, Nat.reduceEqDiff, Nat.reduceLT, Nat.reduceLeDiff, Nat.reduceAdd, Nat.reduceSub, Nat.reduceMul, Nat.reduceMod, Nat.reduceDiv, Nat.reduceBEq, RH, e_h1, h2', e_h3]
      refine J.ite (fun h4 => ?_) (fun h4 => ?_)
      · have h4' : x3 = true := h4
        refine J.some ?_
        simp (disch := first | assumption | decide | with_unfolding_all rfl | omega | (simp only [LN] <;> omega) | (simp only [RO, OF])) only [RR, RM, LN, TT, d15_at, ↓reduceIte, Nat.reduceEqDiff, Nat.reduceLT, Nat.reduceLeDiff, Nat.reduceAdd, Nat.reduceSub, Nat.reduceMul, Nat.reduceMod, Nat.reduceDiv, Nat.reduceBEq, RH, e_h1, h2', e_h3, h4', FF, LN, NN, NT]
      · have h4' : x3 = false := Bool.eq_false_iff.2 h4
        conv => arg 1; simp (maxSteps := 1000000) (disch := first | assumption | decide | with_unfolding_all rfl | omega | (simp only [LN] <;> omega) | (simp only [RO, OF])) only [RR, RM, LN, TT, d15_at, ↓reduceIte, Nat.reduceEqDiff, Nat.reduceLT, Nat.reduceLeDiff, Nat.reduceAdd, Nat.reduceSub, Nat.reduceMul, Nat.reduceMod, Nat.reduceDiv, Nat.reduceBEq, RH, e_h1, h2', e_h3, h4']
        refine J.eq ret_seq ?_
        conv => arg 1; simp (maxSteps := 1000000) (disch := first | assumption | decide | with_unfolding_all rfl | omega | (simp only [LN] <;> omega) | (simp only [RO, OF])) only [RR, RM, LN, TT, d15_at, ↓reduceIte, Nat.reduceEqDiff, Nat.reduceLT, Nat.reduceLeDiff, Nat.reduceAdd, Nat.reduceSub, Nat.reduceMul, Nat.reduceMod, Nat.reduceDiv, Nat.reduceBEq, RH, e_h1, h2', e_h3, h4']
        refine J.eq go_seq ?_
        conv => arg 1; simp (maxSteps := 1000000) (disch := first | assumption | decide | with_unfolding_all rfl | omega | (simp only [LN] <;> omega) | (simp only [RO, OF])) only [RR, RM, LN, TT, d15_at, ↓reduceIte, Nat.reduceEqDiff, Nat.reduceLT, Nat.reduceLeDiff, Nat.reduceAdd, Nat.reduceSub, Nat.reduceMul, Nat.reduceMod, Nat.reduceDiv, Nat.reduceBEq, RH, e_h1, h2', e_h3, h4']
        unfold shape_Size_W1
        refine J.loop (fun (s : Int × Int) => ([(4, .v (.int .i64 s.1)), (18, .arr x1.length (lm (ik .i64) x1)), (19, .v (.int .i64 (x1.length : Int))), (20, .v (.int .i64 s.2))], [])) (fun next s => shape_Size_L1 fu x1 (fun x5 x6 => next (x5, x6)) s.1 s.2) (s0 := (1, 0)) ?_ ?_ ?_
        · first | rfl | (simp only [LN, NN, NT])
        · first | (simp (disch := first | assumption | decide | with_unfolding_all rfl | omega | (simp only [LN] <;> omega) | (simp only [RO, OF])) only [RR, ↓reduceIte, Nat.reduceEqDiff, Nat.reduceLT, Nat.reduceLeDiff, Nat.reduceAdd, Nat.reduceSub, Nat.reduceMul, Nat.reduceMod, Nat.reduceDiv, Nat.reduceBEq, LN, NN, NT]; done) | rfl
        rintro next k1 hn1 ⟨x5, x6⟩
        let nx1 : Int → Int → Option (Int × Int) := (fun x5 x6 => next (x5, x6))
        show J _ (shape_Size_L1 fu x1 nx1 x5 x6) _
        unfold shape_Size_L1
        conv => arg 1; simp (maxSteps := 1000000) (disch := first | assumption | decide | with_unfolding_all rfl | omega | (simp only [LN] <;> omega) | (simp only [RO, OF])) only [RR, RM, LN, TT, d15_at, ↓reduceIte, Nat.reduceEqDiff, Nat.reduceLT, Nat.reduceLeDiff, Nat.reduceAdd, Nat.reduceSub, Nat.reduceMul, Nat.reduceMod, Nat.reduceDiv, Nat.reduceBEq, RH, e_h1, h2', e_h3, h4']
        refine J.eq go_seq ?_
        conv => arg 1; simp (maxSteps := 1000000) (disch := first | assumption | decide | with_unfolding_all rfl | omega | (simp only [LN] <;> omega) | (simp only [RO, OF])) only [RR, RM, LN, TT, d15_at, ↓reduceIte, Nat.reduceEqDiff, Nat.reduceLT, Nat.reduceLeDiff, Nat.reduceAdd, Nat.reduceSub, Nat.reduceMul, Nat.reduceMod, Nat.reduceDiv, Nat.reduceBEq, RH, e_h1, h2', e_h3, h4']
        refine J.ite (fun h5 => ?_) (fun h5 => ?_)
        · have h5' := decide_eq_true h5
          have h5'' : decide ((x1.length : Int) ≤ x6) = false := decide_eq_false (by omega)
          conv => arg 1; simp (maxSteps := 1000000) (disch := first | assumption | decide | with_unfolding_all rfl | omega | (simp only [LN] <;> omega) | (simp only [RO, OF])) only [RR, RM, LN, TT, d15_at, ↓reduceIte, Nat.reduceEqDiff, Nat.reduceLT, Nat.reduceLeDiff, Nat.reduceAdd, Nat.reduceSub, Nat.reduceMul, Nat.reduceMod, Nat.reduceDiv, Nat.reduceBEq, RH, e_h1, h2', e_h3, h4', h5'', h5']
          refine J.eq ret_seq ?_
          refine J.eq go_seq ?_
          refine J.at fun x8 h6 h7 h8 => ?_
          conv => arg 1; simp (maxSteps := 1000000) (disch := first | assumption | decide | with_unfolding_all rfl | omega | (simp only [LN] <;> omega) | (simp only [RO, OF])) only [RR, RM, LN, TT, d15_at, ↓reduceIte, Nat.reduceEqDiff, Nat.reduceLT, Nat.reduceLeDiff, Nat.reduceAdd, Nat.reduceSub, Nat.reduceMul, Nat.reduceMod, Nat.reduceDiv, Nat.reduceBEq, RH, e_h1, h2', e_h3, h4', h5'', h5', lm_ik h8]
          refine J.eq go_seq ?_
          refine J.chk fun h9 => ?_
          conv => arg 1; simp (maxSteps := 1000000) (disch := first | assumption | decide | with_unfolding_all rfl | omega | (simp only [LN] <;> omega) | (simp only [RO, OF])) only [RR, RM, LN, TT, d15_at, ↓reduceIte, Nat.reduceEqDiff, Nat.reduceLT, Nat.reduceLeDiff, Nat.reduceAdd, Nat.reduceSub, Nat.reduceMul, Nat.reduceMod, Nat.reduceDiv, Nat.reduceBEq, RH, e_h1, h2', e_h3, h4', h5'', h5', lm_ik h8]
          refine J.ite (fun h10 => ?_) (fun h10 => ?_)
          · have h10' := decide_eq_true h10
            have h10'' : decide (x8 ≤ (wk .i64 (Int.tdiv 4096 x5))) = false := decide_eq_false (by omega)
            refine J.some ?_
            simp (disch := first | assumption | decide | with_unfolding_all rfl | omega | (simp only [LN] <;> omega) | (simp only [RO, OF])) only [RR, RM, LN, TT, d15_at, ↓reduceIte, Nat.reduceEqDiff, Nat.reduceLT, Nat.reduceLeDiff, Nat.reduceAdd, Nat.reduceSub, Nat.reduceMul, Nat.reduceMod, Nat.reduceDiv, Nat.reduceBEq, RH, e_h1, h2', e_h3, h4', h5'', h5', lm_ik h8, h10'', h10', FF, LN, NN, NT]
          · have h10' := decide_eq_false h10
            have h10'' : decide (x8 ≤ (wk .i64 (Int.tdiv 4096 x5))) = true := decide_eq_true (by omega)
            conv => arg 1; simp (maxSteps := 1000000) (disch := first | assumption | decide | with_unfolding_all rfl | omega | (simp only [LN] <;> omega) | (simp only [RO, OF])) only [RR, RM, LN, TT, d15_at, ↓reduceIte, Nat.reduceEqDiff, Nat.reduceLT, Nat.reduceLeDiff, Nat.reduceAdd, Nat.reduceSub, Nat.reduceMul, Nat.reduceMod, Nat.reduceDiv, Nat.reduceBEq, RH, e_h1, h2', e_h3, h4', h5'', h5', lm_ik h8, h10'', h10']
            refine J.eq ret_seq ?_
            conv => arg 1; simp (maxSteps := 1000000) (disch := first | assumption | decide | with_unfolding_all rfl | omega | (simp only [LN] <;> omega) | (simp only [RO, OF])) only [RR, RM, LN, TT, d15_at, ↓reduceIte, Nat.reduceEqDiff, Nat.reduceLT, Nat.reduceLeDiff, Nat.reduceAdd, Nat.reduceSub, Nat.reduceMul, Nat.reduceMod, Nat.reduceDiv, Nat.reduceBEq, RH, e_h1, h2', e_h3, h4', h5'', h5', lm_ik h8, h10'', h10']
            refine J.eq ret_seq ?_
            conv => arg 1; simp (maxSteps := 1000000) (disch := first | assumption | decide | with_unfolding_all rfl | omega | (simp only [LN] <;> omega) | (simp only [RO, OF])) only [RR, RM, LN, TT, d15_at, ↓reduceIte, Nat.reduceEqDiff, Nat.reduceLT, Nat.reduceLeDiff, Nat.reduceAdd, Nat.reduceSub, Nat.reduceMul, Nat.reduceMod, Nat.reduceDiv, Nat.reduceBEq, RH, e_h1, h2', e_h3, h4', h5'', h5', lm_ik h8, h10'', h10']
            refine J.next (s := (wk .i64 (x5 * x8), wk .i64 (x6 + 1))) hn1 ?_ ?_
            · first | rfl | (simp only [LN, NN, NT])
            · first | (simp (disch := first | assumption | decide | with_unfolding_all rfl | omega | (simp only [LN] <;> omega) | (simp only [RO, OF])) only [RR, ↓reduceIte, Nat.reduceEqDiff, Nat.reduceLT, Nat.reduceLeDiff, Nat.reduceAdd, Nat.reduceSub, Nat.reduceMul, Nat.reduceMod, Nat.reduceDiv, Nat.reduceBEq, LN, NN, NT]; done) | rfl
        · have h5' := decide_eq_false h5
          have h5'' : decide ((x1.length : Int) ≤ x6) = true := decide_eq_true (by omega)
          conv => arg 1; simp (maxSteps := 1000000) (disch := first | assumption | decide | with_unfolding_all rfl | omega | (simp only [LN] <;> omega) | (simp only [RO, OF])) only [RR, RM, LN, TT, d15_at, ↓reduceIte, Nat.reduceEqDiff, Nat.reduceLT, Nat.reduceLeDiff, Nat.reduceAdd, Nat.reduceSub, Nat.reduceMul, Nat.reduceMod, Nat.reduceDiv, Nat.reduceBEq, RH, e_h1, h2', e_h3, h4', h5'', h5']
          refine J.eq ret_seq ?_
          refine J.some ?_
          simp (disch := first | assumption | decide | with_unfolding_all rfl | omega | (simp only [LN] <;> omega) | (simp only [RO, OF])) only [RR, RM, LN, TT, d15_at, ↓reduceIte, Nat.reduceEqDiff, Nat.reduceLT, Nat.reduceLeDiff, Nat.reduceAdd, Nat.reduceSub, Nat.reduceMul, Nat.reduceMod, Nat.reduceDiv, Nat.reduceBEq, RH, e_h1, h2', e_h3, h4', h5'', h5', FF, LN, NN, NT]
    · refine J.eq go_seq ?_
      conv => arg 1; simp (maxSteps := 1000000) (disch := first | assumption | decide | with_unfolding_all rfl | omega | (simp only [LN] <;> omega) | (simp only [RO, OF])) only [RR, RM, LN, TT, d15_at, ↓reduceIte, Nat.reduceEqDiff, Nat.reduceLT, Nat.reduceLeDiff, Nat.reduceAdd, Nat.reduceSub, Nat.reduceMul, Nat.reduceMod, Nat.reduceDiv, Nat.reduceBEq, RH, e_h1, h2']
      refine J.ite (fun h11 => ?_) (fun h11 => ?_)
      · have h11' := decide_eq_true h11
        have h11'' : decide ((x1.length : Int) ≤ 8) = false := decide_eq_false (by omega)
        conv => arg 1; simp (maxSteps := 1000000) (disch := first | assumption | decide | with_unfolding_all rfl | omega | (simp only [LN] <;> omega) | (simp only [RO, OF])) only [RR, RM, LN, TT, d15_at, ↓reduceIte, Nat.reduceEqDiff, Nat.reduceLT, Nat.reduceLeDiff, Nat.reduceAdd, Nat.reduceSub, Nat.reduceMul, Nat.reduceMod, Nat.reduceDiv, Nat.reduceBEq, RH, e_h1, h2', h11'', h11']
        refine J.eq ret_seq ?_
        refine J.some ?_
        simp (disch := first | assumption | decide | with_unfolding_all rfl | omega | (simp only [LN] <;> omega) | (simp only [RO, OF])) only [RR, RM, LN, TT, d15_at, ↓reduceIte, Nat.reduceEqDiff, Nat.reduceLT, Nat.reduceLeDiff, Nat.reduceAdd, Nat.reduceSub, Nat.reduceMul, Nat.reduceMod, Nat.reduceDiv, Nat.reduceBEq, RH, e_h1, h2', h11'', h11', FF, LN, NN, NT]
      · have h11' := decide_eq_false h11
        have h11'' : decide ((x1.length : Int) ≤ 8) = true := decide_eq_true (by omega)
        refine J.bind fun x9 h12 => ?_
        have e_h12 := H53_1 _ _ h12
        try simp only [NN, NT, LN] at e_h12
        conv => arg 1; simp (maxSteps := 1000000) (disch := first | assumption | decide | with_unfolding_all rfl | omega | (simp only [LN] <;> omega) | (simp only [RO, OF])) only [RR, RM, LN, TT, d15_at, ↓reduceIte, Nat.reduceEqDiff, Nat.reduceLT, Nat.reduceLeDiff, Nat.reduceAdd, Nat.reduceSub, Nat.reduceMul, Nat.reduceMod, Nat.reduceDiv, Nat.reduceBEq, RH, e_h1, h2', h11'', h11', e_h12]
        refine J.eq ret_seq ?_
        conv => arg 1; simp (maxSteps := 1000000) (disch := first | assumption | decide | with_unfolding_all rfl | omega | (simp only [LN] <;> omega) | (simp only [RO, OF])) only [RR, RM, LN, TT, d15_at, ↓reduceIte, Nat.reduceEqDiff, Nat.reduceLT, Nat.reduceLeDiff, Nat.reduceAdd, Nat.reduceSub, Nat.reduceMul, Nat.reduceMod, Nat.reduceDiv, Nat.reduceBEq, RH, e_h1, h2', h11'', h11', e_h12]
        refine J.ite (fun h13 => ?_) (fun h13 => ?_)
        · have h13' : x9 = true := h13
          refine J.some ?_
          simp (disch := first | assumption | decide | with_unfolding_all rfl | omega | (simp only [LN] <;> omega) | (simp only [RO, OF])) only [RR, RM, LN, TT, d15_at, ↓reduceIte, Nat.reduceEqDiff, Nat.reduceLT, Nat.reduceLeDiff, Nat.reduceAdd, Nat.reduceSub, Nat.reduceMul, Nat.reduceMod, Nat.reduceDiv, Nat.reduceBEq, RH, e_h1, h2', h11'', h11', e_h12, h13', FF, LN, NN, NT]
        · have h13' : x9 = false := Bool.eq_false_iff.2 h13
          conv => arg 1; simp (maxSteps := 1000000) (disch := first | assumption | decide | with_unfolding_all rfl | omega | (simp only [LN] <;> omega) | (simp only [RO, OF])) only [RR, RM, LN, TT, d15_at, ↓reduceIte, Nat.reduceEqDiff, Nat.reduceLT, Nat.reduceLeDiff, Nat.reduceAdd, Nat.reduceSub, Nat.reduceMul, Nat.reduceMod, Nat.reduceDiv, Nat.reduceBEq, RH, e_h1, h2', h11'', h11', e_h12, h13']
          refine J.jmp (t := ()) hj1 ?_ ?_
          · first | rfl | (simp only [LN, NN, NT])
          · first | (simp (disch := first | assumption | decide | with_unfolding_all rfl | omega | (simp only [LN] <;> omega) | (simp only [RO, OF])) only [RR, ↓reduceIte, Nat.reduceEqDiff, Nat.reduceLT, Nat.reduceLeDiff, Nat.reduceAdd, Nat.reduceSub, Nat.reduceMul, Nat.reduceMod, Nat.reduceDiv, Nat.reduceBEq, LN, NN, NT]; done) | rfl
noncomputable def t15 (fu : Nat) : CallP := orE 53 (mkC (fun (t : List Int) => ([.arr t.length (lm (ik .i64) t), .fn 54 [] []] : List AV)) (fun t => slices_ContainsFunc_int fu t (fun y0 => shape_Size_1 fu y0)) e53) (orE 53 (mkC (fun (t : List Int) => ([.arr t.length (lm (ik .i64) t), .fn 55 [] []] : List AV)) (fun t => slices_ContainsFunc_int fu t (fun y0 => shape_Size_2 fu y0)) e53) (orE 56 (mkC (fun (t : (List Int) × Int) => ([.arr t.1.length (lm (ik .i64) t.1), .v (.int .i64 t.2)] : List AV)) (fun t => slices_Contains_int fu t.1 t.2) e56) (noP)))
theorem t15_ok (fu : Nat) : CpOK Try.prog (t15 fu ) := orE_ok (orE_ok (orE_ok (noP_ok) (mkC_ok (fun t b h => ok56 fu t.1 t.2  b h))) (mkC_ok (fun t b h => ok53 fu t (fun y0 => shape_Size_2 fu y0) 55 [] Capt.nil (fun y0 r h => ok55 fu y0  r h) b h))) (mkC_ok (fun t b h => ok53 fu t (fun y0 => shape_Size_1 fu y0) 54 [] Capt.nil (fun y0 r h => ok54 fu y0  r h) b h))
theorem ok15 (fu : Nat) (x1 : List Int) (r) (h : shape_Size fu x1 = some r) : PureOK Try.prog 15 [.arr x1.length (lm (ik .i64) x1)] (e15 r) :=
  pure_J mixed (cp := t15 fu ) (t15_ok fu  ) noI_ok i15 (w15 _ fu x1  (fun a0 r h => orE_hit (mkC_at (a := a0) (by intro a b h; first | (exact rfl) | (simp only [INJ, c_inj_iff c_T_Tensor_inj, lm_inj_iff (inj_avf (inj_fm c_T_Tensor_len (by decide) c_T_Tensor_inj)), fm_inj_iff (inj_fm c_T_Tensor_len (by decide) c_T_Tensor_inj)] at h; first | exact h | (simp_all [Prod.ext_iff]) )) h)) (fun a0 r h => orE_next (mkC_none (by intro t h; simp at h)) (orE_hit (mkC_at (a := a0) (by intro a b h; first | (exact rfl) | (simp only [INJ, c_inj_iff c_T_Tensor_inj, lm_inj_iff (inj_avf (inj_fm c_T_Tensor_len (by decide) c_T_Tensor_inj)), fm_inj_iff (inj_fm c_T_Tensor_len (by decide) c_T_Tensor_inj)] at h; first | exact h | (simp_all [Prod.ext_iff]) )) h))) (fun a0 a1 r h => orE_miss (by decide) (orE_miss (by decide) (orE_hit (mkC_at (a := (a0, a1)) (by intro a b h; first | (exact rfl) | (simp only [INJ, c_inj_iff c_T_Tensor_inj, lm_inj_iff (inj_avf (inj_fm c_T_Tensor_len (by decide) c_T_Tensor_inj)), fm_inj_iff (inj_fm c_T_Tensor_len (by decide) c_T_Tensor_inj)] at h; first | exact h | (simp_all [Prod.ext_iff]) )) h))))) h
/-! 48: lattice/tens.Check -/
def d48 : List (Nat × List Nat) := [(0, [0, 2]), (0, [23]), (0, [6, 7, 8]), (0, []), (0, []), (0, []), (0, [10, 11, 12, 13, 14, 15]), (0, []), (0, [16]), (0, []), (0, [18]), (0, []), (0, [4, 19, 20, 21]), (0, []), (0, [22]), (0, []), (0, [25]), (0, []), (0, [26, 27, 28]), (0, []), (0, [30]), (0, []), (0, [31, 32, 33]), (0, []), (0, [1, 3, 5, 34, 35, 36, 37, 38, 39, 40, 41, 42, 43, 44, 45, 46, 47, 48, 49, 50]), (0, []), (0, []), (0, []), (0, [])]
def d48_at := And.intro (show d48.getD 0 (0, []) = (0, [0, 2]) from rfl) <| And.intro (show d48.getD 1 (0, []) = (0, [23]) from rfl) <| And.intro (show d48.getD 2 (0, []) = (0, [6, 7, 8]) from rfl) <| And.intro (show d48.getD 3 (0, []) = (0, []) from rfl) <| And.intro (show d48.getD 4 (0, []) = (0, []) from rfl) <| And.intro (show d48.getD 5 (0, []) = (0, []) from rfl) <| And.intro (show d48.getD 6 (0, []) = (0, [10, 11, 12, 13, 14, 15]) from rfl) <| And.intro (show d48.getD 7 (0, []) = (0, []) from rfl) <| And.intro (show d48.getD 8 (0, []) = (0, [16]) from rfl) <| And.intro (show d48.getD 9 (0, []) = (0, []) from rfl) <| And.intro (show d48.getD 10 (0, []) = (0, [18]) from rfl) <| And.intro (show d48.getD 11 (0, []) = (0, []) from rfl) <| And.intro (show d48.getD 12 (0, []) = (0, [4, 19, 20, 21]) from rfl) <| And.intro (show d48.getD 13 (0, []) = (0, []) from rfl) <| And.intro (show d48.getD 14 (0, []) = (0, [22]) from rfl) <| And.intro (show d48.getD 15 (0, []) = (0, []) from rfl) <| And.intro (show d48.getD 16 (0, []) = (0, [25]) from rfl) <| And.intro (show d48.getD 17 (0, []) = (0, []) from rfl) <| And.intro (show d48.getD 18 (0, []) = (0, [26, 27, 28]) from rfl) <| And.intro (show d48.getD 19 (0, []) = (0, []) from rfl) <| And.intro (show d48.getD 20 (0, []) = (0, [30]) from rfl) <| And.intro (show d48.getD 21 (0, []) = (0, []) from rfl) <| And.intro (show d48.getD 22 (0, []) = (0, [31, 32, 33]) from rfl) <| And.intro (show d48.getD 23 (0, []) = (0, []) from rfl) <| And.intro (show d48.getD 24 (0, []) = (0, [1, 3, 5, 34, 35, 36, 37, 38, 39, 40, 41, 42, 43, 44, 45, 46, 47, 48, 49, 50]) from rfl) <| And.intro (show d48.getD 25 (0, []) = (0, []) from rfl) <| And.intro (show d48.getD 26 (0, []) = (0, []) from rfl) <| And.intro (show d48.getD 27 (0, []) = (0, []) from rfl) <| (show d48.getD 28 (0, []) = (0, []) from rfl)
theorem i48 : finfo Try.prog 48 d48 = some ⟨bodyOf Try.f48, [.tmp 2], [25]⟩ := finfo_at Try.func48 rfl (by kernel_rfl) (by kernel_rfl)
def e48 : Int → AV := fun r => .v (.int .i64 r)
set_option maxHeartbeats 1000000 in
theorem w48 (cp : CallP) (fu : Nat) (x1 : T_Tensor) (H61_0 : ∀ (a0 : Int) r, tens_known fu a0 = some r → cp 61 [.v (.int .i64 a0)] = some (.v (.bool r))) (H15_0 : ∀ (a0 : List Int) r, shape_Size fu a0 = some r → cp 15 [.arr a0.length (lm (ik .i64) a0)] = some (.tuple [.v (.int .i64 r.1), .v (.int .i64 r.2)])) : J (go Try.prog noC cp noI 0 [] d48 fu (fin Try.prog [.tmp 2] [25]) (bodyOf Try.f48) (initE 0 [.agg (c_T_Tensor x1)]) [] []) (tens_Check fu x1) e48 := by
  unfold tens_Check e48
  conv => arg 1; simp (maxSteps := 1000000) (disch := first | assumption | decide | with_unfolding_all rfl | omega | (simp only [LN] <;> omega) | (simp only [RO, OF])) only [bodyOf, Try.f48, RR, RM, LN, TT, d48_at, ↓reduceIte, Nat.reduceEqDiff, Nat.reduceLT, Nat.reduceLeDiff, Nat.reduceAdd, Nat.reduceSub, Nat.reduceMul, Nat.reduceMod, Nat.reduceDiv, Nat.reduceBEq, RH]
  refine J.eq go_seq ?_
  refine J.bind fun x2 h1 => ?_
  have e_h1 := H61_0 _ _ h1
  try simp only [NN, NT, LN] at e_h1
  conv => arg 1; simp (maxSteps := 1000000) (disch := first | assumption | decide | with_unfolding_all rfl | omega | (simp only [LN] <;> omega) | (simp only [RO, OF])) only [RR, RM, LN, TT, d48_at, ↓reduceIte, Nat.reduceEqDiff, Nat.reduceLT, Nat.reduceLeDiff, Nat.reduceAdd, Nat.reduceSub, Nat.reduceMul, Nat.reduceMod, Nat.reduceDiv, Nat.reduceBEq, RH, e_h1]
  refine J.ite (fun h2 => ?_) (fun h2 => ?_)
  · have h2' : x2 = true := h2
    conv => arg 1; simp (maxSteps := 1000000) (disch := first | assumption | decide | with_unfolding_all rfl | omega | (simp only [LN] <;> omega) | (simp only [RO, OF])) only [RR, RM, LN, TT, d48_at, ↓reduceIte, Nat.reduceEqDiff, Nat.reduceLT, Nat.reduceLeDiff, Nat.reduceAdd, Nat.reduceSub, Nat.reduceMul, Nat.reduceMod, Nat.reduceDiv, Nat.reduceBEq, RH, e_h1, h2']
    refine J.eq ret_seq ?_
    refine J.bind fun x3 h3 => ?_
    have e_h3 := H15_0 _ _ h3
    try simp only [NN, NT, LN] at e_h3
    conv => arg 1; simp (maxSteps := 1000000) (disch := first | assumption | decide | with_unfolding_all rfl | omega | (simp only [LN] <;> omega) | (simp only [RO, OF])) only [RR, RM, LN, TT, d48_at, ↓reduceIte, Nat.reduceEqDiff, Nat.reduceLT, Nat.reduceLeDiff, Nat.reduceAdd, Nat.reduceSub, Nat.reduceMul, Nat.reduceMod, Nat.reduceDiv, Nat.reduceBEq, RH, e_h1, h2', e_h3]
    refine J.eq go_seq ?_
    conv => arg 1; simp (maxSteps := 1000000) (disch := first | assumption | decide | with_unfolding_all rfl | omega | (simp only [LN] <;> omega) | (simp only [RO, OF])) only [RR, RM, LN, TT, d48_at, ↓reduceIte, Nat.reduceEqDiff, Nat.reduceLT, Nat.reduceLeDiff, Nat.reduceAdd, Nat.reduceSub, Nat.reduceMul, Nat.reduceMod, Nat.reduceDiv, Nat.reduceBEq, RH, e_h1, h2', e_h3]
    refine J.ite (fun h4 => ?_) (fun h4 => ?_)
    · have h4' := decide_eq_true h4
      conv => arg 1; simp (maxSteps := 1000000) (disch := first | assumption | decide | with_unfolding_all rfl | omega | (simp only [LN] <;> omega) | (simp only [RO, OF])) only [RR, RM, LN, TT, d48_at, ↓reduceIte, Nat.reduceEqDiff, Nat.reduceLT, Nat.reduceLeDiff, Nat.reduceAdd, Nat.reduceSub, Nat.reduceMul, Nat.reduceMod, Nat.reduceDiv, Nat.reduceBEq, RH, e_h1, h2', e_h3, h4']
      refine J.eq ret_seq ?_
      conv => arg 1; simp (maxSteps := 1000000) (disch := first | assumption | decide | with_unfolding_all rfl | omega | (simp only [LN] <;> omega) | (simp only [RO, OF])) only [RR, RM, LN, TT, d48_at, ↓reduceIte, Nat.reduceEqDiff, Nat.reduceLT, Nat.reduceLeDiff, Nat.reduceAdd, Nat.reduceSub, Nat.reduceMul, Nat.reduceMod, Nat.reduceDiv, Nat.reduceBEq, RH, e_h1, h2', e_h3, h4']
      refine J.joinS (fun (t : Int) => ([(1, .ptr (0, 1, 0) 0 0), (3, .v (.int .i64 x3.1)), (5, .v (.int .i64 t))], [((0, 1, 0), .bx true ([.v (.int .i64 x1.fType), .arr x1.fDims.length (lm (ik .i64) x1.fDims), .arr x1.fF.length (lm (ik .u32) x1.fF), .arr x1.fI.length (lm (ik .i64) x1.fI), .arr x1.fB.length (lm (bk) x1.fB)]))])) (fun t => tens_Check_k1 fu x1 x3 t) ?_ (fun hj1 => ?_)
      · rintro x4
        show J _ (tens_Check_k1 fu x1 x3 x4) _
        unfold tens_Check_k1
        refine J.eq go_seq ?_
        refine J.eq go_seq ?_
        conv => arg 1; simp (maxSteps := 1000000) (disch := first | assumption | decide | with_unfolding_all rfl | omega | (simp only [LN] <;> omega) | (simp only [RO, OF])) only [RR, RM, LN, TT, d48_at, ↓reduceIte, Nat.reduceEqDiff, Nat.reduceLT, Nat.reduceLeDiff, Nat.reduceAdd, Nat.reduceSub, Nat.reduceMul, Nat.reduceMod, Nat.reduceDiv, Nat.reduceBEq, RH, e_h1, h2', e_h3, h4']
        refine J.ite (fun h5 => ?_) (fun h5 => ?_)
        · have h5' := decide_eq_true h5
          conv => arg 1; simp (maxSteps := 1000000) (disch := first | assumption | decide | with_unfolding_all rfl | omega | (simp only [LN] <;> omega) | (simp only [RO, OF])) only [RR, RM, LN, TT, d48_at, ↓reduceIte, Nat.reduceEqDiff, Nat.reduceLT, Nat.reduceLeDiff, Nat.reduceAdd, Nat.reduceSub, Nat.reduceMul, Nat.reduceMod, Nat.reduceDiv, Nat.reduceBEq, RH, e_h1, h2', e_h3, h4', h5']
          refine J.eq ret_seq ?_
          conv => arg 1; simp (maxSteps := 1000000) (disch := first | assumption | decide | with_unfolding_all rfl | omega | (simp only [LN] <;> omega) | (simp only [RO, OF])) only [RR, RM, LN, TT, d48_at, ↓reduceIte, Nat.reduceEqDiff, Nat.reduceLT, Nat.reduceLeDiff, Nat.reduceAdd, Nat.reduceSub, Nat.reduceMul, Nat.reduceMod, Nat.reduceDiv, Nat.reduceBEq, RH, e_h1, h2', e_h3, h4', h5']
          refine J.ite (fun h6 => ?_) (fun h6 => ?_)
          · have h6' := decide_eq_true h6
            conv => arg 1; simp (maxSteps := 1000000) (disch := first | assumption | decide | with_unfolding_all rfl | omega | (simp only [LN] <;> omega) | (simp only [RO, OF])) only [RR, RM, LN, TT, d48_at, ↓reduceIte, Nat.reduceEqDiff, Nat.reduceLT, Nat.reduceLeDiff, Nat.reduceAdd, Nat.reduceSub, Nat.reduceMul, Nat.reduceMod, Nat.reduceDiv, Nat.reduceBEq, RH, e_h1, h2', e_h3, h4', h5', h6']
            refine J.eq ret_seq ?_
            refine J.some ?_
            simp (disch := first | assumption | decide | with_unfolding_all rfl | omega | (simp only [LN] <;> omega) | (simp only [RO, OF])) only [RR, RM, LN, TT, d48_at, ↓reduceIte, Nat.reduceEqDiff, Nat.reduceLT, Nat.reduceLeDiff, Nat.reduceAdd, Nat.reduceSub, Nat.reduceMul, Nat.reduceMod, Nat.reduceDiv, Nat.reduceBEq, RH, e_h1, h2', e_h3, h4', h5', h6', FF, LN, NN, NT]
          · have h6' := decide_eq_false h6
            refine J.some ?_
            simp (disch := first | assumption | decide | with_unfolding_all rfl | omega | (simp only [LN] <;> omega) | (simp only [RO, OF])) only [RR, RM, LN, TT, d48_at, ↓reduceIte, Nat.reduceEqDiff, Nat.reduceLT, Nat.reduceLeDiff, Nat.reduceAdd, Nat.reduceSub, Nat.reduceMul, Nat.reduceMod, Nat.reduceDiv, Nat.reduceBEq, RH, e_h1, h2', e_h3, h4', h5', h6', FF, LN, NN, NT]
        · have h5' := decide_eq_false h5
          conv => arg 1; simp (maxSteps := 1000000) (disch := first | assumption | decide | with_unfolding_all rfl | omega | (simp only [LN] <;> omega) | (simp only [RO, OF])) only [RR, RM, LN, TT, d48_at, ↓reduceIte, Nat.reduceEqDiff, Nat.reduceLT, Nat.reduceLeDiff, Nat.reduceAdd, Nat.reduceSub, Nat.reduceMul, Nat.reduceMod, Nat.reduceDiv, Nat.reduceBEq, RH, e_h1, h2', e_h3, h4', h5']
          refine J.eq ret_seq ?_
          refine J.some ?_
          simp (disch := first | assumption | decide | with_unfolding_all rfl | omega | (simp only [LN] <;> omega) | (simp only [RO, OF])) only [RR, RM, LN, TT, d48_at, ↓reduceIte, Nat.reduceEqDiff, Nat.reduceLT, Nat.reduceLeDiff, Nat.reduceAdd, Nat.reduceSub, Nat.reduceMul, Nat.reduceMod, Nat.reduceDiv, Nat.reduceBEq, RH, e_h1, h2', e_h3, h4', h5', FF, LN, NN, NT]
      · conv => arg 1; simp (maxSteps := 1000000) (disch := first | assumption | decide | with_unfolding_all rfl | omega | (simp only [LN] <;> omega) | (simp only [RO, OF])) only [RR, RM, LN, TT, d48_at, ↓reduceIte, Nat.reduceEqDiff, Nat.reduceLT, Nat.reduceLeDiff, Nat.reduceAdd, Nat.reduceSub, Nat.reduceMul, Nat.reduceMod, Nat.reduceDiv, Nat.reduceBEq, RH, e_h1, h2', e_h3, h4']
        refine J.ite (fun h7 => ?_) (fun h7 => ?_)
        · have h7' := decide_eq_true h7
          conv => arg 1; simp (maxSteps := 1000000) (disch := first | assumption | decide | with_unfolding_all rfl | omega | (simp only [LN] <;> omega) | (simp only [RO, OF])) only [RR, RM, LN, TT, d48_at, ↓reduceIte, Nat.reduceEqDiff, Nat.reduceLT, Nat.reduceLeDiff, Nat.reduceAdd, Nat.reduceSub, Nat.reduceMul, Nat.reduceMod, Nat.reduceDiv, Nat.reduceBEq, RH, e_h1, h2', e_h3, h4', h7']
          refine J.jmp (t := (x1.fI.length : Int)) hj1 ?_ ?_
          · first | rfl | (simp only [LN, NN, NT])
          · first | (simp (disch := first | assumption | decide | with_unfolding_all rfl | omega | (simp only [LN] <;> omega) | (simp only [RO, OF])) only [RR, ↓reduceIte, Nat.reduceEqDiff, Nat.reduceLT, Nat.reduceLeDiff, Nat.reduceAdd, Nat.reduceSub, Nat.reduceMul, Nat.reduceMod, Nat.reduceDiv, Nat.reduceBEq, LN, NN, NT]; done) | rfl
        · have h7' := decide_eq_false h7
          conv => arg 1; simp (maxSteps := 1000000) (disch := first | assumption | decide | with_unfolding_all rfl | omega | (simp only [LN] <;> omega) | (simp only [RO, OF])) only [RR, RM, LN, TT, d48_at, ↓reduceIte, Nat.reduceEqDiff, Nat.reduceLT, Nat.reduceLeDiff, Nat.reduceAdd, Nat.reduceSub, Nat.reduceMul, Nat.reduceMod, Nat.reduceDiv, Nat.reduceBEq, RH, e_h1, h2', e_h3, h4', h7']
          refine J.ite (fun h8 => ?_) (fun h8 => ?_)
          · have h8' := decide_eq_true h8
            conv => arg 1; simp (maxSteps := 1000000) (disch := first | assumption | decide | with_unfolding_all rfl | omega | (simp only [LN] <;> omega) | (simp only [RO, OF])) only [RR, RM, LN, TT, d48_at, ↓reduceIte, Nat.reduceEqDiff, Nat.reduceLT, Nat.reduceLeDiff, Nat.reduceAdd, Nat.reduceSub, Nat.reduceMul, Nat.reduceMod, Nat.reduceDiv, Nat.reduceBEq, RH, e_h1, h2', e_h3, h4', h7', h8']
            refine J.jmp (t := (x1.fB.length : Int)) hj1 ?_ ?_
            · first | rfl | (simp only [LN, NN, NT])
            · first | (simp (disch := first | assumption | decide | with_unfolding_all rfl | omega | (simp only [LN] <;> omega) | (simp only [RO, OF])) only [RR, ↓reduceIte, Nat.reduceEqDiff, Nat.reduceLT, Nat.reduceLeDiff, Nat.reduceAdd, Nat.reduceSub, Nat.reduceMul, Nat.reduceMod, Nat.reduceDiv, Nat.reduceBEq, LN, NN, NT]; done) | rfl
          · have h8' := decide_eq_false h8
            conv => arg 1; simp (maxSteps := 1000000) (disch := first | assumption | decide | with_unfolding_all rfl | omega | (simp only [LN] <;> omega) | (simp only [RO, OF])) only [RR, RM, LN, TT, d48_at, ↓reduceIte, Nat.reduceEqDiff, Nat.reduceLT, Nat.reduceLeDiff, Nat.reduceAdd, Nat.reduceSub, Nat.reduceMul, Nat.reduceMod, Nat.reduceDiv, Nat.reduceBEq, RH, e_h1, h2', e_h3, h4', h7', h8']
            refine J.jmp (t := (x1.fF.length : Int)) hj1 ?_ ?_
            · first | rfl | (simp only [LN, NN, NT])
            · first | (simp (disch := first | assumption | decide | with_unfolding_all rfl | omega | (simp only [LN] <;> omega) | (simp only [RO, OF])) only [RR, ↓reduceIte, Nat.reduceEqDiff, Nat.reduceLT, Nat.reduceLeDiff, Nat.reduceAdd, Nat.reduceSub, Nat.reduceMul, Nat.reduceMod, Nat.reduceDiv, Nat.reduceBEq, LN, NN, NT]; done) | rfl
    · have h4' := decide_eq_false h4
      refine J.some ?_
      simp (disch := first | assumption | decide | with_unfolding_all rfl | omega | (simp only [LN] <;> omega) | (simp only [RO, OF])) only [RR, RM, LN, TT, d48_at, ↓reduceIte, Nat.reduceEqDiff, Nat.reduceLT, Nat.reduceLeDiff, Nat.reduceAdd, Nat.reduceSub, Nat.reduceMul, Nat.reduceMod, Nat.reduceDiv, Nat.reduceBEq, RH, e_h1, h2', e_h3, h4', FF, LN, NN, NT]
  · have h2' : x2 = false := Bool.eq_false_iff.2 h2
    refine J.some ?_
    simp (disch := first | assumption | decide | with_unfolding_all rfl | omega | (simp only [LN] <;> omega) | (simp only [RO, OF])) only [RR, RM, LN, TT, d48_at, ↓reduceIte, Nat.reduceEqDiff, Nat.reduceLT, Nat.reduceLeDiff, Nat.reduceAdd, Nat.reduceSub, Nat.reduceMul, Nat.reduceMod, Nat.reduceDiv, Nat.reduceBEq, RH, e_h1, h2', FF, LN, NN, NT]
noncomputable def t48 (fu : Nat) : CallP := orE 61 (mkC (fun (t : Int) => ([.v (.int .i64 t)] : List AV)) (fun t => tens_known fu t) e61) (orE 15 (mkC (fun (t : List Int) => ([.arr t.length (lm (ik .i64) t)] : List AV)) (fun t => shape_Size fu t) e15) (noP))
theorem t48_ok (fu : Nat) : CpOK Try.prog (t48 fu ) := orE_ok (orE_ok (noP_ok) (mkC_ok (fun t b h => ok15 fu t  b h))) (mkC_ok (fun t b h => ok61 fu t  b h))
theorem ok48 (fu : Nat) (x1 : T_Tensor) (r) (h : tens_Check fu x1 = some r) : PureOK Try.prog 48 [.agg (c_T_Tensor x1)] (e48 r) :=
  pure_J mixed (cp := t48 fu ) (t48_ok fu  ) noI_ok i48 (w48 _ fu x1  (fun a0 r h => orE_hit (mkC_at (a := a0) (by intro a b h; first | (exact rfl) | (simp only [INJ, c_inj_iff c_T_Tensor_inj, lm_inj_iff (inj_avf (inj_fm c_T_Tensor_len (by decide) c_T_Tensor_inj)), fm_inj_iff (inj_fm c_T_Tensor_len (by decide) c_T_Tensor_inj)] at h; first | exact h | (simp_all [Prod.ext_iff]) )) h)) (fun a0 r h => orE_miss (by decide) (orE_hit (mkC_at (a := a0) (by intro a b h; first | (exact rfl) | (simp only [INJ, c_inj_iff c_T_Tensor_inj, lm_inj_iff (inj_avf (inj_fm c_T_Tensor_len (by decide) c_T_Tensor_inj)), fm_inj_iff (inj_fm c_T_Tensor_len (by decide) c_T_Tensor_inj)] at h; first | exact h | (simp_all [Prod.ext_iff]) )) h)))) h
/-! 58: slices.Clone[[]int,int] -/
def d58 : List (Nat × List Nat) := [(0, [2]), (0, []), (0, [3]), (0, []), (0, []), (0, []), (0, [0, 5, 6, 7])]
def d58_at := And.intro (show d58.getD 0 (0, []) = (0, [2]) from rfl) <| And.intro (show d58.getD 1 (0, []) = (0, []) from rfl) <| And.intro (show d58.getD 2 (0, []) = (0, [3]) from rfl) <| And.intro (show d58.getD 3 (0, []) = (0, []) from rfl) <| And.intro (show d58.getD 4 (0, []) = (0, []) from rfl) <| And.intro (show d58.getD 5 (0, []) = (0, []) from rfl) <| (show d58.getD 6 (0, []) = (0, [0, 5, 6, 7]) from rfl)
theorem i58 : finfo Try.prog 58 d58 = some ⟨bodyOf Try.f58, [.tmp 2], [22]⟩ := finfo_at Try.func58 rfl (by kernel_rfl) (by kernel_rfl)
def e58 : List Int → AV := fun r => .fresh 1 r.length (lm (ik .i64) r)
theorem ok58 (fu : Nat) (x1 : List Int) (r) (h : slices_Clone_int fu x1 = some r) : PureOK Try.prog 58 [.arr x1.length (lm (ik .i64) x1)] (e58 r) := by
  unfold slices_Clone_int chk at h
  split at h
  · rename_i hs; injection h with h; subst h
    cases x1 with
    | nil =>
      refine PureOK.arr0 fun a c => ?_
      refine pure_J mixed (C := noC) (cp := noP) (n := 0) noP_ok noI_ok i58 (s := some []) (enc := e58) ?_ rfl
      refine J.some ?_
      unfold e58
      cases a with
      | none =>
        conv => lhs; simp (disch := first | assumption | decide | with_unfolding_all rfl | omega | (simp only [LN] <;> omega) | (simp only [RO, OF])) only [bodyOf, Try.f58, RR, RM, LN, TT, d58_at, ↓reduceIte, Nat.reduceEqDiff, Nat.reduceLT, Nat.reduceLeDiff, Nat.reduceAdd, Nat.reduceSub, Nat.reduceMul, Nat.reduceMod, Nat.reduceDiv, Nat.reduceBEq, abin_sl tv22]
        rw [go_seq]
        simp (disch := first | assumption | decide | with_unfolding_all rfl | omega | (simp only [LN] <;> omega) | (simp only [RO, OF])) only [RR, RM, LN, TT, d58_at, ↓reduceIte, Nat.reduceEqDiff, Nat.reduceLT, Nat.reduceLeDiff, Nat.reduceAdd, Nat.reduceSub, Nat.reduceMul, Nat.reduceMod, Nat.reduceDiv, Nat.reduceBEq, abin_sl tv22, FF, NN, NT]
      | some a =>
        conv => lhs; simp (disch := first | assumption | decide | with_unfolding_all rfl | omega | (simp only [LN] <;> omega) | (simp only [RO, OF])) only [bodyOf, Try.f58, RR, RM, LN, TT, d58_at, ↓reduceIte, Nat.reduceEqDiff, Nat.reduceLT, Nat.reduceLeDiff, Nat.reduceAdd, Nat.reduceSub, Nat.reduceMul, Nat.reduceMod, Nat.reduceDiv, Nat.reduceBEq, abin_sl tv22]
        rw [go_seq]
        conv => lhs; simp (disch := first | assumption | decide | with_unfolding_all rfl | omega | (simp only [LN] <;> omega) | (simp only [RO, OF])) only [RR, RM, LN, TT, d58_at, ↓reduceIte, Nat.reduceEqDiff, Nat.reduceLT, Nat.reduceLeDiff, Nat.reduceAdd, Nat.reduceSub, Nat.reduceMul, Nat.reduceMod, Nat.reduceDiv, Nat.reduceBEq, abin_sl tv22]
        rw [ret_seq]
        simp (disch := first | assumption | decide | with_unfolding_all rfl | omega | (simp only [LN] <;> omega) | (simp only [RO, OF])) only [RR, RM, LN, TT, d58_at, ↓reduceIte, Nat.reduceEqDiff, Nat.reduceLT, Nat.reduceLeDiff, Nat.reduceAdd, Nat.reduceSub, Nat.reduceMul, Nat.reduceMod, Nat.reduceDiv, Nat.reduceBEq, abin_sl tv22, FF, NN, NT]
    | cons y x1 =>
      refine pure_J mixed (C := noC) (cp := noP) (n := 0) noP_ok noI_ok i58 (s := some (y :: x1)) (enc := e58) ?_ rfl
      refine J.some ?_
      have ha : ∀ xs, abin Try.prog .eql 22 (.arr (y :: x1).length xs) (.v (.slice none 0 0)) = some (.v (.bool false)) := fun xs => abin_an (op := .eql) tv22 (by simp)
      generalize y :: x1 = l at hs ha ⊢
      unfold e58
      conv => lhs; simp (disch := first | assumption | decide | with_unfolding_all rfl | omega | (simp only [LN] <;> omega) | (simp only [RO, OF])) only [bodyOf, Try.f58, RR, RM, LN, TT, d58_at, ↓reduceIte, Nat.reduceEqDiff, Nat.reduceLT, Nat.reduceLeDiff, Nat.reduceAdd, Nat.reduceSub, Nat.reduceMul, Nat.reduceMod, Nat.reduceDiv, Nat.reduceBEq, abin_sl tv22, ha]
      rw [go_seq]
      conv => lhs; simp (disch := first | assumption | decide | with_unfolding_all rfl | omega | (simp only [LN] <;> omega) | (simp only [RO, OF])) only [RR, RM, LN, TT, d58_at, ↓reduceIte, Nat.reduceEqDiff, Nat.reduceLT, Nat.reduceLeDiff, Nat.reduceAdd, Nat.reduceSub, Nat.reduceMul, Nat.reduceMod, Nat.reduceDiv, Nat.reduceBEq, abin_sl tv22, ha]
      rw [ret_seq]
      simp (disch := first | assumption | decide | with_unfolding_all rfl | omega | (simp only [LN] <;> omega) | (simp only [RO, OF])) only [RR, RM, LN, TT, d58_at, ↓reduceIte, Nat.reduceEqDiff, Nat.reduceLT, Nat.reduceLeDiff, Nat.reduceAdd, Nat.reduceSub, Nat.reduceMul, Nat.reduceMod, Nat.reduceDiv, Nat.reduceBEq, abin_sl tv22, FF, NN, NT, lm_length]
  · cases h
/-! 30: lattice/tens.New -/
def d30 : List (Nat × List Nat) := [(0, [5]), (0, [6, 26]), (0, [9, 10]), (0, []), (0, [12]), (0, []), (0, [13, 14, 15, 16, 17]), (0, []), (0, [18]), (0, []), (0, [20, 21]), (0, []), (0, [1, 7, 22, 23, 24, 25]), (0, []), (0, [0]), (0, []), (0, [27, 28, 29]), (0, []), (0, [31]), (0, []), (0, [32, 33, 34]), (0, []), (0, [36]), (0, []), (0, [37, 38, 39]), (0, []), (0, [8, 40])]
def d30_at := And.intro (show d30.getD 0 (0, []) = (0, [5]) from rfl) <| And.intro (show d30.getD 1 (0, []) = (0, [6, 26]) from rfl) <| And.intro (show d30.getD 2 (0, []) = (0, [9, 10]) from rfl) <| And.intro (show d30.getD 3 (0, []) = (0, []) from rfl) <| And.intro (show d30.getD 4 (0, []) = (0, [12]) from rfl) <| And.intro (show d30.getD 5 (0, []) = (0, []) from rfl) <| And.intro (show d30.getD 6 (0, []) = (0, [13, 14, 15, 16, 17]) from rfl) <| And.intro (show d30.getD 7 (0, []) = (0, []) from rfl) <| And.intro (show d30.getD 8 (0, []) = (0, [18]) from rfl) <| And.intro (show d30.getD 9 (0, []) = (0, []) from rfl) <| And.intro (show d30.getD 10 (0, []) = (0, [20, 21]) from rfl) <| And.intro (show d30.getD 11 (0, []) = (0, []) from rfl) <| And.intro (show d30.getD 12 (0, []) = (0, [1, 7, 22, 23, 24, 25]) from rfl) <| And.intro (show d30.getD 13 (0, []) = (0, []) from rfl) <| And.intro (show d30.getD 14 (0, []) = (0, [0]) from rfl) <| And.intro (show d30.getD 15 (0, []) = (0, []) from rfl) <| And.intro (show d30.getD 16 (0, []) = (0, [27, 28, 29]) from rfl) <| And.intro (show d30.getD 17 (0, []) = (0, []) from rfl) <| And.intro (show d30.getD 18 (0, []) = (0, [31]) from rfl) <| And.intro (show d30.getD 19 (0, []) = (0, []) from rfl) <| And.intro (show d30.getD 20 (0, []) = (0, [32, 33, 34]) from rfl) <| And.intro (show d30.getD 21 (0, []) = (0, []) from rfl) <| And.intro (show d30.getD 22 (0, []) = (0, [36]) from rfl) <| And.intro (show d30.getD 23 (0, []) = (0, []) from rfl) <| And.intro (show d30.getD 24 (0, []) = (0, [37, 38, 39]) from rfl) <| And.intro (show d30.getD 25 (0, []) = (0, []) from rfl) <| (show d30.getD 26 (0, []) = (0, [8, 40]) from rfl)
theorem i30 : finfo Try.prog 30 d30 = some ⟨bodyOf Try.f30, [.cell 4 42, .tmp 5], [42, 25]⟩ := finfo_at Try.func30 rfl (by kernel_rfl) (by kernel_rfl)
def e30 : (T_Tensor × Int) → AV := fun r => .tuple [.agg [.v (.int .i64 r.1.fType), .fresh 1 r.1.fDims.length (lm (ik .i64) r.1.fDims), .fresh 1 r.1.fF.length (lm (ik .u32) r.1.fF), .fresh 1 r.1.fI.length (lm (ik .i64) r.1.fI), .fresh 1 r.1.fB.length (lm (bk) r.1.fB)], .v (.int .i64 r.2)]
set_option maxHeartbeats 1000000 in
theorem w30 (cp : CallP) (fu : Nat) (x1 : Int) (x2 : List Int) (H61_0 : ∀ (a0 : Int) r, tens_known fu a0 = some r → cp 61 [.v (.int .i64 a0)] = some (.v (.bool r))) (H15_0 : ∀ (a0 : List Int) r, shape_Size fu a0 = some r → cp 15 [.arr a0.length (lm (ik .i64) a0)] = some (.tuple [.v (.int .i64 r.1), .v (.int .i64 r.2)])) (H58_0 : ∀ (a0 : List Int) r, slices_Clone_int fu a0 = some r → cp 58 [.arr a0.length (lm (ik .i64) a0)] = some (.fresh 1 r.length (lm (ik .i64) r))) : J (go Try.prog noC cp noI 0 [] d30 fu (fin Try.prog [.cell 4 42, .tmp 5] [42, 25]) (bodyOf Try.f30) (initE 0 [.v (.int .i64 x1), .arr x2.length (lm (ik .i64) x2)]) [] []) (tens_New fu x1 x2) e30 := by
  unfold tens_New e30
  conv => arg 1; simp (maxSteps := 1000000) (disch := first | assumption | decide | with_unfolding_all rfl | omega | (simp only [LN] <;> omega) | (simp only [RO, OF])) only [bodyOf, Try.f30, RR, RM, LN, TT, d30_at, ↓reduceIte, Nat.reduceEqDiff, Nat.reduceLT, Nat.reduceLeDiff, Nat.reduceAdd, Nat.reduceSub, Nat.reduceMul, Nat.reduceMod, Nat.reduceDiv, Nat.reduceBEq, RH]
  refine J.eq go_seq ?_
  refine J.bind fun x3 h1 => ?_
  have e_h1 := H61_0 _ _ h1
  try simp only [NN, NT, LN] at e_h1
  conv => arg 1; simp (maxSteps := 1000000) (disch := first | assumption | decide | with_unfolding_all rfl | omega | (simp only [LN] <;> omega) | (simp only [RO, OF])) only [RR, RM, LN, TT, d30_at, ↓reduceIte, Nat.reduceEqDiff, Nat.reduceLT, Nat.reduceLeDiff, Nat.reduceAdd, Nat.reduceSub, Nat.reduceMul, Nat.reduceMod, Nat.reduceDiv, Nat.reduceBEq, RH, e_h1]
  refine J.ite (fun h2 => ?_) (fun h2 => ?_)
  · have h2' : x3 = true := h2
    conv => arg 1; simp (maxSteps := 1000000) (disch := first | assumption | decide | with_unfolding_all rfl | omega | (simp only [LN] <;> omega) | (simp only [RO, OF])) only [RR, RM, LN, TT, d30_at, ↓reduceIte, Nat.reduceEqDiff, Nat.reduceLT, Nat.reduceLeDiff, Nat.reduceAdd, Nat.reduceSub, Nat.reduceMul, Nat.reduceMod, Nat.reduceDiv, Nat.reduceBEq, RH, e_h1, h2']
    refine J.eq ret_seq ?_
    refine J.bind fun x4 h3 => ?_
    have e_h3 := H15_0 _ _ h3
    try simp only [NN, NT, LN] at e_h3
    conv => arg 1; simp (maxSteps := 1000000) (disch := first | assumption | decide | with_unfolding_all rfl | omega | (simp only [LN] <;> omega) | (simp only [RO, OF])) only [RR, RM, LN, TT, d30_at, ↓reduceIte, Nat.reduceEqDiff, Nat.reduceLT, Nat.reduceLeDiff, Nat.reduceAdd, Nat.reduceSub, Nat.reduceMul, Nat.reduceMod, Nat.reduceDiv, Nat.reduceBEq, RH, e_h1, h2', e_h3]
    refine J.eq go_seq ?_
    conv => arg 1; simp (maxSteps := 1000000) (disch := first | assumption | decide | with_unfolding_all rfl | omega | (simp only [LN] <;> omega) | (simp only [RO, OF])) only [RR, RM, LN, TT, d30_at, ↓reduceIte, Nat.reduceEqDiff, Nat.reduceLT, Nat.reduceLeDiff, Nat.reduceAdd, Nat.reduceSub, Nat.reduceMul, Nat.reduceMod, Nat.reduceDiv, Nat.reduceBEq, RH, e_h1, h2', e_h3]
    refine J.ite (fun h4 => ?_) (fun h4 => ?_)
    · have h4' := decide_eq_true h4
      conv => arg 1; simp (maxSteps := 1000000) (disch := first | assumption | decide | with_unfolding_all rfl | omega | (simp only [LN] <;> omega) | (simp only [RO, OF])) only [RR, RM, LN, TT, d30_at, ↓reduceIte, Nat.reduceEqDiff, Nat.reduceLT, Nat.reduceLeDiff, Nat.reduceAdd, Nat.reduceSub, Nat.reduceMul, Nat.reduceMod, Nat.reduceDiv, Nat.reduceBEq, RH, e_h1, h2', e_h3, h4']
      refine J.eq ret_seq ?_
      refine J.bind fun x5 h5 => ?_
      have e_h5 := H58_0 _ _ h5
      try simp only [NN, NT, LN] at e_h5
      conv => arg 1; simp (maxSteps := 1000000) (disch := first | assumption | decide | with_unfolding_all rfl | omega | (simp only [LN] <;> omega) | (simp only [RO, OF])) only [RR, RM, LN, TT, d30_at, ↓reduceIte, Nat.reduceEqDiff, Nat.reduceLT, Nat.reduceLeDiff, Nat.reduceAdd, Nat.reduceSub, Nat.reduceMul, Nat.reduceMod, Nat.reduceDiv, Nat.reduceBEq, RH, e_h1, h2', e_h3, h4', e_h5]
      refine J.eq go_seq ?_
      conv => arg 1; simp (maxSteps := 1000000) (disch := first | assumption | decide | with_unfolding_all rfl | omega | (simp only [LN] <;> omega) | (simp only [RO, OF])) only [RR, RM, LN, TT, d30_at, ↓reduceIte, Nat.reduceEqDiff, Nat.reduceLT, Nat.reduceLeDiff, Nat.reduceAdd, Nat.reduceSub, Nat.reduceMul, Nat.reduceMod, Nat.reduceDiv, Nat.reduceBEq, RH, e_h1, h2', e_h3, h4', e_h5]
      refine J.ite (fun h6 => ?_) (fun h6 => ?_)
      · have h6' := decide_eq_true h6
        refine J.chk fun h7 => ?_
        conv => arg 1; simp (maxSteps := 1000000) (disch := first | assumption | decide | with_unfolding_all rfl | omega | (simp only [LN] <;> omega) | (simp only [RO, OF])) only [RR, RM, LN, TT, d30_at, ↓reduceIte, Nat.reduceEqDiff, Nat.reduceLT, Nat.reduceLeDiff, Nat.reduceAdd, Nat.reduceSub, Nat.reduceMul, Nat.reduceMod, Nat.reduceDiv, Nat.reduceBEq, RH, e_h1, h2', e_h3, h4', e_h5, h6']
        refine J.eq ret_seq ?_
        refine J.some ?_
        simp (disch := first | assumption | decide | with_unfolding_all rfl | omega | (simp only [LN] <;> omega) | (simp only [RO, OF])) only [RR, RM, LN, TT, d30_at, ↓reduceIte, Nat.reduceEqDiff, Nat.reduceLT, Nat.reduceLeDiff, Nat.reduceAdd, Nat.reduceSub, Nat.reduceMul, Nat.reduceMod, Nat.reduceDiv, Nat.reduceBEq, RH, e_h1, h2', e_h3, h4', e_h5, h6', FF, LN, NN, NT]
      · have h6' := decide_eq_false h6
        conv => arg 1; simp (maxSteps := 1000000) (disch := first | assumption | decide | with_unfolding_all rfl | omega | (simp only [LN] <;> omega) | (simp only [RO, OF])) only [RR, RM, LN, TT, d30_at, ↓reduceIte, Nat.reduceEqDiff, Nat.reduceLT, Nat.reduceLeDiff, Nat.reduceAdd, Nat.reduceSub, Nat.reduceMul, Nat.reduceMod, Nat.reduceDiv, Nat.reduceBEq, RH, e_h1, h2', e_h3, h4', e_h5, h6']
        refine J.ite (fun h8 => ?_) (fun h8 => ?_)
        · have h8' := decide_eq_true h8
          refine J.chk fun h9 => ?_
          conv => arg 1; simp (maxSteps := 1000000) (disch := first | assumption | decide | with_unfolding_all rfl | omega | (simp only [LN] <;> omega) | (simp only [RO, OF])) only [RR, RM, LN, TT, d30_at, ↓reduceIte, Nat.reduceEqDiff, Nat.reduceLT, Nat.reduceLeDiff, Nat.reduceAdd, Nat.reduceSub, Nat.reduceMul, Nat.reduceMod, Nat.reduceDiv, Nat.reduceBEq, RH, e_h1, h2', e_h3, h4', e_h5, h6', h8']
          refine J.eq ret_seq ?_
          refine J.some ?_
          simp (disch := first | assumption | decide | with_unfolding_all rfl | omega | (simp only [LN] <;> omega) | (simp only [RO, OF])) only [RR, RM, LN, TT, d30_at, ↓reduceIte, Nat.reduceEqDiff, Nat.reduceLT, Nat.reduceLeDiff, Nat.reduceAdd, Nat.reduceSub, Nat.reduceMul, Nat.reduceMod, Nat.reduceDiv, Nat.reduceBEq, RH, e_h1, h2', e_h3, h4', e_h5, h6', h8', FF, LN, NN, NT]
        · have h8' := decide_eq_false h8
          refine J.chk fun h10 => ?_
          conv => arg 1; simp (maxSteps := 1000000) (disch := first | assumption | decide | with_unfolding_all rfl | omega | (simp only [LN] <;> omega) | (simp only [RO, OF])) only [RR, RM, LN, TT, d30_at, ↓reduceIte, Nat.reduceEqDiff, Nat.reduceLT, Nat.reduceLeDiff, Nat.reduceAdd, Nat.reduceSub, Nat.reduceMul, Nat.reduceMod, Nat.reduceDiv, Nat.reduceBEq, RH, e_h1, h2', e_h3, h4', e_h5, h6', h8']
          refine J.eq ret_seq ?_
          refine J.some ?_
          simp (disch := first | assumption | decide | with_unfolding_all rfl | omega | (simp only [LN] <;> omega) | (simp only [RO, OF])) only [RR, RM, LN, TT, d30_at, ↓reduceIte, Nat.reduceEqDiff, Nat.reduceLT, Nat.reduceLeDiff, Nat.reduceAdd, Nat.reduceSub, Nat.reduceMul, Nat.reduceMod, Nat.reduceDiv, Nat.reduceBEq, RH, e_h1, h2', e_h3, h4', e_h5, h6', h8', FF, LN, NN, NT]
    · have h4' := decide_eq_false h4
      refine J.some ?_
      simp (disch := first | assumption | decide | with_unfolding_all rfl | omega | (simp only [LN] <;> omega) | (simp only [RO, OF])) only [RR, RM, LN, TT, d30_at, ↓reduceIte, Nat.reduceEqDiff, Nat.reduceLT, Nat.reduceLeDiff, Nat.reduceAdd, Nat.reduceSub, Nat.reduceMul, Nat.reduceMod, Nat.reduceDiv, Nat.reduceBEq, RH, e_h1, h2', e_h3, h4', FF, LN, NN, NT]
  · have h2' : x3 = false := Bool.eq_false_iff.2 h2
    refine J.some ?_
    simp (disch := first | assumption | decide | with_unfolding_all rfl | omega | (simp only [LN] <;> omega) | (simp only [RO, OF])) only [RR, RM, LN, TT, d30_at, ↓reduceIte, Nat.reduceEqDiff, Nat.reduceLT, Nat.reduceLeDiff, Nat.reduceAdd, Nat.reduceSub, Nat.reduceMul, Nat.reduceMod, Nat.reduceDiv, Nat.reduceBEq, RH, e_h1, h2', FF, LN, NN, NT]
noncomputable def t30 (fu : Nat) : CallP := orE 61 (mkC (fun (t : Int) => ([.v (.int .i64 t)] : List AV)) (fun t => tens_known fu t) e61) (orE 15 (mkC (fun (t : List Int) => ([.arr t.length (lm (ik .i64) t)] : List AV)) (fun t => shape_Size fu t) e15) (orE 58 (mkC (fun (t : List Int) => ([.arr t.length (lm (ik .i64) t)] : List AV)) (fun t => slices_Clone_int fu t) e58) (noP)))
theorem t30_ok (fu : Nat) : CpOK Try.prog (t30 fu ) := orE_ok (orE_ok (orE_ok (noP_ok) (mkC_ok (fun t b h => ok58 fu t  b h))) (mkC_ok (fun t b h => ok15 fu t  b h))) (mkC_ok (fun t b h => ok61 fu t  b h))
theorem ok30 (fu : Nat) (x1 : Int) (x2 : List Int) (r) (h : tens_New fu x1 x2 = some r) : PureOK Try.prog 30 [.v (.int .i64 x1), .arr x2.length (lm (ik .i64) x2)] (e30 r) :=
  pure_J mixed (cp := t30 fu ) (t30_ok fu  ) noI_ok i30 (w30 _ fu x1 x2  (fun a0 r h => orE_hit (mkC_at (a := a0) (by intro a b h; first | (exact rfl) | (simp only [INJ, c_inj_iff c_T_Tensor_inj, lm_inj_iff (inj_avf (inj_fm c_T_Tensor_len (by decide) c_T_Tensor_inj)), fm_inj_iff (inj_fm c_T_Tensor_len (by decide) c_T_Tensor_inj)] at h; first | exact h | (simp_all [Prod.ext_iff]) )) h)) (fun a0 r h => orE_miss (by decide) (orE_hit (mkC_at (a := a0) (by intro a b h; first | (exact rfl) | (simp only [INJ, c_inj_iff c_T_Tensor_inj, lm_inj_iff (inj_avf (inj_fm c_T_Tensor_len (by decide) c_T_Tensor_inj)), fm_inj_iff (inj_fm c_T_Tensor_len (by decide) c_T_Tensor_inj)] at h; first | exact h | (simp_all [Prod.ext_iff]) )) h))) (fun a0 r h => orE_miss (by decide) (orE_miss (by decide) (orE_hit (mkC_at (a := a0) (by intro a b h; first | (exact rfl) | (simp only [INJ, c_inj_iff c_T_Tensor_inj, lm_inj_iff (inj_avf (inj_fm c_T_Tensor_len (by decide) c_T_Tensor_inj)), fm_inj_iff (inj_fm c_T_Tensor_len (by decide) c_T_Tensor_inj)] at h; first | exact h | (simp_all [Prod.ext_iff]) )) h))))) h
/-! 63: lattice/tens.Pick$1 -/
def d63 : List (Nat × List Nat) := [(0, [3]), (0, []), (0, [0, 1, 4, 5, 6, 7, 8, 9, 10])]
def d63_at := And.intro (show d63.getD 0 (0, []) = (0, [3]) from rfl) <| And.intro (show d63.getD 1 (0, []) = (0, []) from rfl) <| (show d63.getD 2 (0, []) = (0, [0, 1, 4, 5, 6, 7, 8, 9, 10]) from rfl)
theorem i63 : finfo Try.prog 63 d63 = some ⟨bodyOf Try.f63, [.tmp 3], [4]⟩ := finfo_at Try.func63 rfl (by kernel_rfl) (by kernel_rfl)
def e63 : Bool → AV := fun r => .v (.bool r)
set_option maxHeartbeats 1000000 in
theorem w63 (cp : CallP) (fu : Nat) (x1 : Int) (x2 : Int) : J (go Try.prog noC cp noI 0 [] d63 fu (fin Try.prog [.tmp 3] [4]) (bodyOf Try.f63) (initE 0 [.v (.int .i64 x1), .ref [.v (.int .i64 x2)] 0]) [] []) (tens_Pick_1 fu x1 x2) e63 := by
  unfold tens_Pick_1 e63
  conv => arg 1; simp (maxSteps := 1000000) (disch := first | assumption | decide | with_unfolding_all rfl | omega | (simp only [LN] <;> omega) | (simp only [RO, OF])) only [bodyOf, Try.f63, RR, RM, LN, TT, d63_at, ↓reduceIte, Nat.reduceEqDiff, Nat.reduceLT, Nat.reduceLeDiff, Nat.reduceAdd, Nat.reduceSub, Nat.reduceMul, Nat.reduceMod, Nat.reduceDiv, Nat.reduceBEq, RH]
  refine J.eq go_seq ?_
  conv => arg 1; simp (maxSteps := 1000000) (disch := first | assumption | decide | with_unfolding_all rfl | omega | (simp only [LN] <;> omega) | (simp only [RO, OF])) only [RR, RM, LN, TT, d63_at, ↓reduceIte, Nat.reduceEqDiff, Nat.reduceLT, Nat.reduceLeDiff, Nat.reduceAdd, Nat.reduceSub, Nat.reduceMul, Nat.reduceMod, Nat.reduceDiv, Nat.reduceBEq, RH]
  refine J.ite (fun h1 => ?_) (fun h1 => ?_)
  · have h1' := decide_eq_true h1
    have h1'' : decide ((-1) ≤ x1) = false := decide_eq_false (by omega)
    conv => arg 1; simp (maxSteps := 1000000) (disch := first | assumption | decide | with_unfolding_all rfl | omega | (simp only [LN] <;> omega) | (simp only [RO, OF])) only [RR, RM, LN, TT, d63_at, ↓reduceIte, Nat.reduceEqDiff, Nat.reduceLT, Nat.reduceLeDiff, Nat.reduceAdd, Nat.reduceSub, Nat.reduceMul, Nat.reduceMod, Nat.reduceDiv, Nat.reduceBEq, RH, h1'', h1']
    refine J.eq ret_seq ?_
    refine J.some ?_
    simp (disch := first | assumption | decide | with_unfolding_all rfl | omega | (simp only [LN] <;> omega) | (simp only [RO, OF])) only [RR, RM, LN, TT, d63_at, ↓reduceIte, Nat.reduceEqDiff, Nat.reduceLT, Nat.reduceLeDiff, Nat.reduceAdd, Nat.reduceSub, Nat.reduceMul, Nat.reduceMod, Nat.reduceDiv, Nat.reduceBEq, RH, h1'', h1', FF, LN, NN, NT]
  · have h1' := decide_eq_false h1
    have h1'' : decide ((-1) ≤ x1) = true := decide_eq_true (by omega)
    conv => arg 1; simp (maxSteps := 1000000) (disch := first | assumption | decide | with_unfolding_all rfl | omega | (simp only [LN] <;> omega) | (simp only [RO, OF])) only [RR, RM, LN, TT, d63_at, ↓reduceIte, Nat.reduceEqDiff, Nat.reduceLT, Nat.reduceLeDiff, Nat.reduceAdd, Nat.reduceSub, Nat.reduceMul, Nat.reduceMod, Nat.reduceDiv, Nat.reduceBEq, RH, h1'', h1']
    refine J.eq ret_seq ?_
    refine J.some ?_
    simp (disch := first | assumption | decide | with_unfolding_all rfl | omega | (simp only [LN] <;> omega) | (simp only [RO, OF])) only [RR, RM, LN, TT, d63_at, ↓reduceIte, Nat.reduceEqDiff, Nat.reduceLT, Nat.reduceLeDiff, Nat.reduceAdd, Nat.reduceSub, Nat.reduceMul, Nat.reduceMod, Nat.reduceDiv, Nat.reduceBEq, RH, h1'', h1', FF, LN, NN, NT]
noncomputable def t63 (fu : Nat) : CallP := noP
theorem t63_ok (fu : Nat) : CpOK Try.prog (t63 fu ) := noP_ok
theorem ok63 (fu : Nat) (x1 : Int) (x2 : Int) (r) (h : tens_Pick_1 fu x1 x2 = some r) : PureOK Try.prog 63 [.v (.int .i64 x1), .ref [.v (.int .i64 x2)] 0] (e63 r) :=
  pure_J mixed (cp := t63 fu ) (t63_ok fu  ) noI_ok i63 (w63 _ fu x1 x2  ) h
/-! 64: lattice/tens.picked[uint32] -/
def d64 : List (Nat × List Nat) := [(0, [8, 9]), (0, [0, 1, 11, 12, 13]), (0, [2]), (0, [6, 7]), (0, []), (0, []), (0, [15, 16, 17]), (0, []), (0, [18]), (0, []), (0, [20, 21, 22, 23, 24, 25, 26]), (0, []), (0, [27])]
def d64_at := And.intro (show d64.getD 0 (0, []) = (0, [8, 9]) from rfl) <| And.intro (show d64.getD 1 (0, []) = (0, [0, 1, 11, 12, 13]) from rfl) <| And.intro (show d64.getD 2 (0, []) = (0, [2]) from rfl) <| And.intro (show d64.getD 3 (0, []) = (0, [6, 7]) from rfl) <| And.intro (show d64.getD 4 (0, []) = (0, []) from rfl) <| And.intro (show d64.getD 5 (0, []) = (0, []) from rfl) <| And.intro (show d64.getD 6 (0, []) = (0, [15, 16, 17]) from rfl) <| And.intro (show d64.getD 7 (0, []) = (0, []) from rfl) <| And.intro (show d64.getD 8 (0, []) = (0, [18]) from rfl) <| And.intro (show d64.getD 9 (0, []) = (0, []) from rfl) <| And.intro (show d64.getD 10 (0, []) = (0, [20, 21, 22, 23, 24, 25, 26]) from rfl) <| And.intro (show d64.getD 11 (0, []) = (0, []) from rfl) <| (show d64.getD 12 (0, []) = (0, [27]) from rfl)
noncomputable def b64 : Code := bodyOf Try.f64
theorem go_b64 {C : Cfg} {cp : CallP} {ci : CallI} {lvl : Nat} {prot : List Id} {D : List (Nat × List Nat)} {n : Nat} {K : KK} {e : Env} {h : Heap} {fs : List Fr} : go Try.prog C cp ci lvl prot D n K b64 e h fs = go Try.prog C cp ci lvl prot D n K (bodyOf Try.f64) e h fs := rfl
theorem i64 : finfo Try.prog 64 d64 = some ⟨b64, [], []⟩ := finfo_at Try.func64 rfl (by kernel_rfl) (by kernel_rfl)
/-! 65: lattice/tens.picked[int64] -/
def d65 : List (Nat × List Nat) := [(0, [8, 9]), (0, [0, 1, 11, 12, 13]), (0, [2]), (0, [6, 7]), (0, []), (0, []), (0, [15, 16, 17]), (0, []), (0, [18]), (0, []), (0, [20, 21, 22, 23, 24, 25, 26]), (0, []), (0, [27])]
def d65_at := And.intro (show d65.getD 0 (0, []) = (0, [8, 9]) from rfl) <| And.intro (show d65.getD 1 (0, []) = (0, [0, 1, 11, 12, 13]) from rfl) <| And.intro (show d65.getD 2 (0, []) = (0, [2]) from rfl) <| And.intro (show d65.getD 3 (0, []) = (0, [6, 7]) from rfl) <| And.intro (show d65.getD 4 (0, []) = (0, []) from rfl) <| And.intro (show d65.getD 5 (0, []) = (0, []) from rfl) <| And.intro (show d65.getD 6 (0, []) = (0, [15, 16, 17]) from rfl) <| And.intro (show d65.getD 7 (0, []) = (0, []) from rfl) <| And.intro (show d65.getD 8 (0, []) = (0, [18]) from rfl) <| And.intro (show d65.getD 9 (0, []) = (0, []) from rfl) <| And.intro (show d65.getD 10 (0, []) = (0, [20, 21, 22, 23, 24, 25, 26]) from rfl) <| And.intro (show d65.getD 11 (0, []) = (0, []) from rfl) <| (show d65.getD 12 (0, []) = (0, [27]) from rfl)
noncomputable def b65 : Code := bodyOf Try.f65
theorem go_b65 {C : Cfg} {cp : CallP} {ci : CallI} {lvl : Nat} {prot : List Id} {D : List (Nat × List Nat)} {n : Nat} {K : KK} {e : Env} {h : Heap} {fs : List Fr} : go Try.prog C cp ci lvl prot D n K b65 e h fs = go Try.prog C cp ci lvl prot D n K (bodyOf Try.f65) e h fs := rfl
theorem i65 : finfo Try.prog 65 d65 = some ⟨b65, [], []⟩ := finfo_at Try.func65 rfl (by kernel_rfl) (by kernel_rfl)
/-! 66: lattice/tens.picked[bool] -/
def d66 : List (Nat × List Nat) := [(0, [8, 9]), (0, [0, 1, 11, 12, 13]), (0, [2]), (0, [6, 7]), (0, []), (0, []), (0, [15, 16, 17]), (0, []), (0, [18]), (0, []), (0, [20, 21, 22, 23, 24, 25, 26]), (0, []), (0, [27])]
def d66_at := And.intro (show d66.getD 0 (0, []) = (0, [8, 9]) from rfl) <| And.intro (show d66.getD 1 (0, []) = (0, [0, 1, 11, 12, 13]) from rfl) <| And.intro (show d66.getD 2 (0, []) = (0, [2]) from rfl) <| And.intro (show d66.getD 3 (0, []) = (0, [6, 7]) from rfl) <| And.intro (show d66.getD 4 (0, []) = (0, []) from rfl) <| And.intro (show d66.getD 5 (0, []) = (0, []) from rfl) <| And.intro (show d66.getD 6 (0, []) = (0, [15, 16, 17]) from rfl) <| And.intro (show d66.getD 7 (0, []) = (0, []) from rfl) <| And.intro (show d66.getD 8 (0, []) = (0, [18]) from rfl) <| And.intro (show d66.getD 9 (0, []) = (0, []) from rfl) <| And.intro (show d66.getD 10 (0, []) = (0, [20, 21, 22, 23, 24, 25, 26]) from rfl) <| And.intro (show d66.getD 11 (0, []) = (0, []) from rfl) <| (show d66.getD 12 (0, []) = (0, [27]) from rfl)
noncomputable def b66 : Code := bodyOf Try.f66
theorem go_b66 {C : Cfg} {cp : CallP} {ci : CallI} {lvl : Nat} {prot : List Id} {D : List (Nat × List Nat)} {n : Nat} {K : KK} {e : Env} {h : Heap} {fs : List Fr} : go Try.prog C cp ci lvl prot D n K b66 e h fs = go Try.prog C cp ci lvl prot D n K (bodyOf Try.f66) e h fs := rfl
theorem i66 : finfo Try.prog 66 d66 = some ⟨b66, [], []⟩ := finfo_at Try.func66 rfl (by kernel_rfl) (by kernel_rfl)
/-! 37: lattice/tens.Pick -/
def d37 : List (Nat × List Nat) := [(0, [0, 7]), (0, []), (0, [12, 13]), (0, []), (0, [14]), (0, []), (0, [16, 17]), (0, []), (0, [1, 8, 18, 19, 20, 21, 22, 23, 24]), (0, []), (0, [25]), (0, []), (0, [27, 28]), (0, []), (0, [10, 29, 30, 31, 32, 33, 34, 35, 36, 37, 38, 39]), (0, []), (0, [40, 41, 42, 43, 44, 45, 46, 47, 48, 49, 50, 51, 52]), (0, []), (0, [54]), (0, []), (0, [11, 55, 56]), (0, []), (0, [58]), (0, []), (0, [59, 60, 61, 62, 63, 64]), (0, []), (0, [65, 66, 67, 68, 69, 70]), (0, []), (0, [2, 3, 71, 72, 73, 74, 75, 76]), (0, []), (0, [9, 77])]
def d37_at := And.intro (show d37.getD 0 (0, []) = (0, [0, 7]) from rfl) <| And.intro (show d37.getD 1 (0, []) = (0, []) from rfl) <| And.intro (show d37.getD 2 (0, []) = (0, [12, 13]) from rfl) <| And.intro (show d37.getD 3 (0, []) = (0, []) from rfl) <| And.intro (show d37.getD 4 (0, []) = (0, [14]) from rfl) <| And.intro (show d37.getD 5 (0, []) = (0, []) from rfl) <| And.intro (show d37.getD 6 (0, []) = (0, [16, 17]) from rfl) <| And.intro (show d37.getD 7 (0, []) = (0, []) from rfl) <| And.intro (show d37.getD 8 (0, []) = (0, [1, 8, 18, 19, 20, 21, 22, 23, 24]) from rfl) <| And.intro (show d37.getD 9 (0, []) = (0, []) from rfl) <| And.intro (show d37.getD 10 (0, []) = (0, [25]) from rfl) <| And.intro (show d37.getD 11 (0, []) = (0, []) from rfl) <| And.intro (show d37.getD 12 (0, []) = (0, [27, 28]) from rfl) <| And.intro (show d37.getD 13 (0, []) = (0, []) from rfl) <| And.intro (show d37.getD 14 (0, []) = (0, [10, 29, 30, 31, 32, 33, 34, 35, 36, 37, 38, 39]) from rfl) <| And.intro (show d37.getD 15 (0, []) = (0, []) from rfl) <| And.intro (show d37.getD 16 (0, []) = (0, [40, 41, 42, 43, 44, 45, 46, 47, 48, 49, 50, 51, 52]) from rfl) <| And.intro (show d37.getD 17 (0, []) = (0, []) from rfl) <| And.intro (show d37.getD 18 (0, []) = (0, [54]) from rfl) <| And.intro (show d37.getD 19 (0, []) = (0, []) from rfl) <| And.intro (show d37.getD 20 (0, []) = (0, [11, 55, 56]) from rfl) <| And.intro (show d37.getD 21 (0, []) = (0, []) from rfl) <| And.intro (show d37.getD 22 (0, []) = (0, [58]) from rfl) <| And.intro (show d37.getD 23 (0, []) = (0, []) from rfl) <| And.intro (show d37.getD 24 (0, []) = (0, [59, 60, 61, 62, 63, 64]) from rfl) <| And.intro (show d37.getD 25 (0, []) = (0, []) from rfl) <| And.intro (show d37.getD 26 (0, []) = (0, [65, 66, 67, 68, 69, 70]) from rfl) <| And.intro (show d37.getD 27 (0, []) = (0, []) from rfl) <| And.intro (show d37.getD 28 (0, []) = (0, [2, 3, 71, 72, 73, 74, 75, 76]) from rfl) <| And.intro (show d37.getD 29 (0, []) = (0, []) from rfl) <| (show d37.getD 30 (0, []) = (0, [9, 77]) from rfl)
theorem i37 : finfo Try.prog 37 d37 = some ⟨bodyOf Try.f37, [.cell 6 42, .tmp 7], [42, 25]⟩ := finfo_at Try.func37 rfl (by kernel_rfl) (by kernel_rfl)
def e37 : (T_Tensor × Int) → AV := fun r => .tuple [.agg [.v (.int .i64 r.1.fType), .fresh 1 r.1.fDims.length (lm (ik .i64) r.1.fDims), .fresh 1 r.1.fF.length (lm (ik .u32) r.1.fF), .fresh 1 r.1.fI.length (lm (ik .i64) r.1.fI), .fresh 1 r.1.fB.length (lm (bk) r.1.fB)], .v (.int .i64 r.2)]
set_option maxHeartbeats 1000000 in
theorem w37 (cp : CallP) (fu : Nat) (x1 : T_Tensor) (x2 : List Int) (x3 : List Int) (H48_0 : ∀ (a0 : T_Tensor) r, tens_Check fu a0 = some r → cp 48 [.agg (c_T_Tensor a0)] = some (.v (.int .i64 r))) (H30_0 : ∀ (a0 : Int) (a1 : List Int) r, tens_New fu a0 a1 = some r → cp 30 [.v (.int .i64 a0), .arr a1.length (lm (ik .i64) a1)] = some (.tuple [.agg [.v (.int .i64 r.1.fType), .fresh 1 r.1.fDims.length (lm (ik .i64) r.1.fDims), .fresh 1 r.1.fF.length (lm (ik .u32) r.1.fF), .fresh 1 r.1.fI.length (lm (ik .i64) r.1.fI), .fresh 1 r.1.fB.length (lm (bk) r.1.fB)], .v (.int .i64 r.2)])) (H53_0 : ∀ (a0 : List Int) (c1 : Int) r, slices_ContainsFunc_int fu a0 (fun y0 => tens_Pick_1 fu y0 c1) = some r → cp 53 [.arr a0.length (lm (ik .i64) a0), .fn 63 [] [.ref [.v (.int .i64 c1)] 0]] = some (.v (.bool r))) : J (go Try.prog (inlC [64, 65, 66]) cp (ciE Try.prog (inlC [64, 65, 66]) cp fu 64 d64 ⟨b64, [], []⟩ (ciE Try.prog (inlC [64, 65, 66]) cp fu 65 d65 ⟨b65, [], []⟩ (ciE Try.prog (inlC [64, 65, 66]) cp fu 66 d66 ⟨b66, [], []⟩ noI))) 0 [] d37 fu (fin Try.prog [.cell 6 42, .tmp 7] [42, 25]) (bodyOf Try.f37) (initE 0 [.agg (c_T_Tensor x1), .arr x2.length (lm (ik .i64) x2), .arr x3.length (lm (ik .i64) x3)]) [] []) (tens_Pick fu x1 x2 x3) e37 := by
  unfold tens_Pick e37
  conv => arg 1; simp (maxSteps := 1000000) (disch := first | assumption | decide | with_unfolding_all rfl | omega | (simp only [LN] <;> omega) | (simp only [RO, OF])) only [bodyOf, Try.f37, RR, RM, LN, TT, d37_at, ↓reduceIte, Nat.reduceEqDiff, Nat.reduceLT, Nat.reduceLeDiff, Nat.reduceAdd, Nat.reduceSub, Nat.reduceMul, Nat.reduceMod, Nat.reduceDiv, Nat.reduceBEq, RI, RIk, initE, RH]
  refine J.eq go_seq ?_
  refine J.bind fun x4 h1 => ?_
  have e_h1 := H48_0 _ _ h1
  try simp only [NN, NT, LN] at e_h1
  conv => arg 1; simp (maxSteps := 1000000) (disch := first | assumption | decide | with_unfolding_all rfl | omega | (simp only [LN] <;> omega) | (simp only [RO, OF])) only [RR, RM, LN, TT, d37_at, ↓reduceIte, Nat.reduceEqDiff, Nat.reduceLT, Nat.reduceLeDiff, Nat.reduceAdd, Nat.reduceSub, Nat.reduceMul, Nat.reduceMod, Nat.reduceDiv, Nat.reduceBEq, RI, RIk, initE, RH, e_h1]
  refine J.ite (fun h2 => ?_) (fun h2 => ?_)
  · have h2' := decide_eq_true h2
    conv => arg 1; simp (maxSteps := 1000000) (disch := first | assumption | decide | with_unfolding_all rfl | omega | (simp only [LN] <;> omega) | (simp only [RO, OF])) only [RR, RM, LN, TT, d37_at, ↓reduceIte, Nat.reduceEqDiff, Nat.reduceLT, Nat.reduceLeDiff, Nat.reduceAdd, Nat.reduceSub, Nat.reduceMul, Nat.reduceMod, Nat.reduceDiv, Nat.reduceBEq, RI, RIk, initE, RH, e_h1, h2']
    refine J.eq ret_seq ?_
    refine J.bind fun x5 h3 => ?_
    have e_h3 := H30_0 _ _ _ h3
    try simp only [NN, NT, LN] at e_h3
    conv => arg 1; simp (maxSteps := 1000000) (disch := first | assumption | decide | with_unfolding_all rfl | omega | (simp only [LN] <;> omega) | (simp only [RO, OF])) only [RR, RM, LN, TT, d37_at, ↓reduceIte, Nat.reduceEqDiff, Nat.reduceLT, Nat.reduceLeDiff, Nat.reduceAdd, Nat.reduceSub, Nat.reduceMul, Nat.reduceMod, Nat.reduceDiv, Nat.reduceBEq, RI, RIk, initE, RH, e_h1, h2', e_h3]
    refine J.eq go_seq ?_
    conv => arg 1; simp (maxSteps := 1000000) (disch := first | assumption | decide | with_unfolding_all rfl | omega | (simp only [LN] <;> omega) | (simp only [RO, OF])) only [RR, RM, LN, TT, d37_at, ↓reduceIte, Nat.reduceEqDiff, Nat.reduceLT, Nat.reduceLeDiff, Nat.reduceAdd, Nat.reduceSub, Nat.reduceMul, Nat.reduceMod, Nat.reduceDiv, Nat.reduceBEq, RI, RIk, initE, RH, e_h1, h2', e_h3]
    refine J.ite (fun h4 => ?_) (fun h4 => ?_)
    · have h4' := decide_eq_true h4
      conv => arg 1; simp (maxSteps := 1000000) (disch := first | assumption | decide | with_unfolding_all rfl | omega | (simp only [LN] <;> omega) | (simp only [RO, OF])) only [RR, RM, LN, TT, d37_at, ↓reduceIte, Nat.reduceEqDiff, Nat.reduceLT, Nat.reduceLeDiff, Nat.reduceAdd, Nat.reduceSub, Nat.reduceMul, Nat.reduceMod, Nat.reduceDiv, Nat.reduceBEq, RI, RIk, initE, RH, e_h1, h2', e_h3, h4']
      refine J.eq ret_seq ?_
      conv => arg 1; simp (maxSteps := 1000000) (disch := first | assumption | decide | with_unfolding_all rfl | omega | (simp only [LN] <;> omega) | (simp only [RO, OF])) only [RR, RM, LN, TT, d37_at, ↓reduceIte, Nat.reduceEqDiff, Nat.reduceLT, Nat.reduceLeDiff, Nat.reduceAdd, Nat.reduceSub, Nat.reduceMul, Nat.reduceMod, Nat.reduceDiv, Nat.reduceBEq, RI, RIk, initE, RH, e_h1, h2', e_h3, h4']
      refine J.eq go_seq ?_
      conv => arg 1; simp (maxSteps := 1000000) (disch := first | assumption | decide | with_unfolding_all rfl | omega | (simp only [LN] <;> omega) | (simp only [RO, OF])) only [RR, RM, LN, TT, d37_at, ↓reduceIte, Nat.reduceEqDiff, Nat.reduceLT, Nat.reduceLeDiff, Nat.reduceAdd, Nat.reduceSub, Nat.reduceMul, Nat.reduceMod, Nat.reduceDiv, Nat.reduceBEq, RI, RIk, initE, RH, e_h1, h2', e_h3, h4']
      refine J.ite (fun h5 => ?_) (fun h5 => ?_)
      · have h5' := decide_eq_true h5
        conv => arg 1; simp (maxSteps := 1000000) (disch := first | assumption | decide | with_unfolding_all rfl | omega | (simp only [LN] <;> omega) | (simp only [RO, OF])) only [RR, RM, LN, TT, d37_at, ↓reduceIte, Nat.reduceEqDiff, Nat.reduceLT, Nat.reduceLeDiff, Nat.reduceAdd, Nat.reduceSub, Nat.reduceMul, Nat.reduceMod, Nat.reduceDiv, Nat.reduceBEq, RI, RIk, initE, RH, e_h1, h2', e_h3, h4', h5']
        refine J.eq ret_seq ?_
        refine J.eq go_seq ?_
        refine J.bind fun x6 h6 => ?_
        have e_h6 := H53_0 _ _ _ h6
        try simp only [NN, NT, LN] at e_h6
        conv => arg 1; simp (maxSteps := 1000000) (disch := first | assumption | decide | with_unfolding_all rfl | omega | (simp only [LN] <;> omega) | (simp only [RO, OF])) only [RR, RM, LN, TT, d37_at, ↓reduceIte, Nat.reduceEqDiff, Nat.reduceLT, Nat.reduceLeDiff, Nat.reduceAdd, Nat.reduceSub, Nat.reduceMul, Nat.reduceMod, Nat.reduceDiv, Nat.reduceBEq, RI, RIk, initE, RH, e_h1, h2', e_h3, h4', h5', e_h6]
        refine J.ite (fun h7 => ?_) (fun h7 => ?_)
        · have h7' : x6 = true := h7
          refine J.some ?_
          simp (disch := first | assumption | decide | with_unfolding_all rfl | omega | (simp only [LN] <;> omega) | (simp only [RO, OF])) only [RR, RM, LN, TT, d37_at, ↓reduceIte, Nat.reduceEqDiff, Nat.reduceLT, Nat.reduceLeDiff, Nat.reduceAdd, Nat.reduceSub, Nat.reduceMul, Nat.reduceMod, Nat.reduceDiv, Nat.reduceBEq, RI, RIk, initE, RH, e_h1, h2', e_h3, h4', h5', e_h6, h7', FF, LN, NN, NT]
        · have h7' : x6 = false := Bool.eq_false_iff.2 h7
          conv => arg 1; simp (maxSteps := 1000000) (disch := first | assumption | decide | with_unfolding_all rfl | omega | (simp only [LN] <;> omega) | (simp only [RO, OF])) only [RR, RM, LN, TT, d37_at, ↓reduceIte, Nat.reduceEqDiff, Nat.reduceLT, Nat.reduceLeDiff, Nat.reduceAdd, Nat.reduceSub, Nat.reduceMul, Nat.reduceMod, Nat.reduceDiv, Nat.reduceBEq, RI, RIk, initE, RH, e_h1, h2', e_h3, h4', h5', e_h6, h7']
          refine J.eq ret_seq ?_
          conv => arg 1; simp (maxSteps := 1000000) (disch := first | assumption | decide | with_unfolding_all rfl | omega | (simp only [LN] <;> omega) | (simp only [RO, OF])) only [RR, RM, LN, TT, d37_at, ↓reduceIte, Nat.reduceEqDiff, Nat.reduceLT, Nat.reduceLeDiff, Nat.reduceAdd, Nat.reduceSub, Nat.reduceMul, Nat.reduceMod, Nat.reduceDiv, Nat.reduceBEq, bodyOf, Try.f64, d64_at, RI, RIk, initE, RH, e_h1, h2', e_h3, h4', h5', e_h6, h7']
          refine J.callK (fun (t : List Int) => (.tuple [], [((0, 3, 0), .bx true ([.v (.int .i64 x1.fType), .arr x1.fDims.length (lm (ik .i64) x1.fDims), .arr x1.fF.length (lm (ik .u32) x1.fF), .arr x1.fI.length (lm (ik .i64) x1.fI), .arr x1.fB.length (lm (bk) x1.fB)])), ((0, 6, 0), .bx true ([.v (.int .i64 0), .v (.slice none 0 0), .v (.slice none 0 0), .v (.slice none 0 0), .v (.slice none 0 0)])), ((0, 22, 0), .sl true true 1 x5.1.fDims.length (lm (ik .i64) x5.1.fDims)), ((0, 22, 1), .sl true true 1 x5.1.fF.length (lm (ik .u32) t)), ((0, 22, 2), .sl true true 1 x5.1.fI.length (lm (ik .i64) x5.1.fI)), ((0, 22, 3), .sl true true 1 x5.1.fB.length (lm (bk) x5.1.fB)), ((0, 9, 0), .bx true ([.v (.int .i64 x5.1.fType), .own (0, 22, 0) 0 x5.1.fDims.length x5.1.fDims.length, .own (0, 22, 1) 0 x5.1.fF.length x5.1.fF.length, .own (0, 22, 2) 0 x5.1.fI.length x5.1.fI.length, .own (0, 22, 3) 0 x5.1.fB.length x5.1.fB.length]))])) (fun t => tens_Pick_c1 fu x1 x3 x5 t) ?_ (fun hj1 => ?_)
          · rintro x7
            show J _ (tens_Pick_c1 fu x1 x3 x5 x7) _
            unfold tens_Pick_c1
            refine J.chk fun h8 => ?_
            conv => arg 1; simp (maxSteps := 1000000) (disch := first | assumption | decide | with_unfolding_all rfl | omega | (simp only [LN] <;> omega) | (simp only [RO, OF])) only [RR, RM, LN, TT, d37_at, ↓reduceIte, Nat.reduceEqDiff, Nat.reduceLT, Nat.reduceLeDiff, Nat.reduceAdd, Nat.reduceSub, Nat.reduceMul, Nat.reduceMod, Nat.reduceDiv, Nat.reduceBEq, go_b64, bodyOf, Try.f64, d64_at, bodyOf, Try.f65, d65_at, RI, RIk, initE, RH, e_h1, h2', e_h3, h4', h5', e_h6, h7', h8]
            refine J.callK (fun (t : List Int) => (.tuple [], [((0, 3, 0), .bx true ([.v (.int .i64 x1.fType), .arr x1.fDims.length (lm (ik .i64) x1.fDims), .arr x1.fF.length (lm (ik .u32) x1.fF), .arr x1.fI.length (lm (ik .i64) x1.fI), .arr x1.fB.length (lm (bk) x1.fB)])), ((0, 6, 0), .bx true ([.v (.int .i64 0), .v (.slice none 0 0), .v (.slice none 0 0), .v (.slice none 0 0), .v (.slice none 0 0)])), ((0, 22, 0), .sl true true 1 x5.1.fDims.length (lm (ik .i64) x5.1.fDims)), ((0, 22, 1), .sl true true 1 x7.length (lm (ik .u32) x7)), ((0, 22, 2), .sl true true 1 x5.1.fI.length (lm (ik .i64) t)), ((0, 22, 3), .sl true true 1 x5.1.fB.length (lm (bk) x5.1.fB)), ((0, 9, 0), .bx true ([.v (.int .i64 x5.1.fType), .own (0, 22, 0) 0 x5.1.fDims.length x5.1.fDims.length, .own (0, 22, 1) 0 x7.length x7.length, .own (0, 22, 2) 0 x5.1.fI.length x5.1.fI.length, .own (0, 22, 3) 0 x5.1.fB.length x5.1.fB.length]))])) (fun t => tens_Pick_c2 fu x1 x3 x5 x7 t) ?_ (fun hj2 => ?_)
            · rintro x8
              show J _ (tens_Pick_c2 fu x1 x3 x5 x7 x8) _
              unfold tens_Pick_c2
              refine J.chk fun h9 => ?_
              conv => arg 1; simp (maxSteps := 1000000) (disch := first | assumption | decide | with_unfolding_all rfl | omega | (simp only [LN] <;> omega) | (simp only [RO, OF])) only [RR, RM, LN, TT, d37_at, ↓reduceIte, Nat.reduceEqDiff, Nat.reduceLT, Nat.reduceLeDiff, Nat.reduceAdd, Nat.reduceSub, Nat.reduceMul, Nat.reduceMod, Nat.reduceDiv, Nat.reduceBEq, go_b64, bodyOf, Try.f64, d64_at, go_b65, bodyOf, Try.f65, d65_at, bodyOf, Try.f66, d66_at, RI, RIk, initE, RH, e_h1, h2', e_h3, h4', h5', e_h6, h7', h8, h9]
              refine J.callK (fun (t : List Bool) => (.tuple [], [((0, 3, 0), .bx true ([.v (.int .i64 x1.fType), .arr x1.fDims.length (lm (ik .i64) x1.fDims), .arr x1.fF.length (lm (ik .u32) x1.fF), .arr x1.fI.length (lm (ik .i64) x1.fI), .arr x1.fB.length (lm (bk) x1.fB)])), ((0, 6, 0), .bx true ([.v (.int .i64 0), .v (.slice none 0 0), .v (.slice none 0 0), .v (.slice none 0 0), .v (.slice none 0 0)])), ((0, 22, 0), .sl true true 1 x5.1.fDims.length (lm (ik .i64) x5.1.fDims)), ((0, 22, 1), .sl true true 1 x7.length (lm (ik .u32) x7)), ((0, 22, 2), .sl true true 1 x8.length (lm (ik .i64) x8)), ((0, 22, 3), .sl true true 1 x5.1.fB.length (lm (bk) t)), ((0, 9, 0), .bx true ([.v (.int .i64 x5.1.fType), .own (0, 22, 0) 0 x5.1.fDims.length x5.1.fDims.length, .own (0, 22, 1) 0 x7.length x7.length, .own (0, 22, 2) 0 x8.length x8.length, .own (0, 22, 3) 0 x5.1.fB.length x5.1.fB.length]))])) (fun t => tens_Pick_c3 fu x5 x7 x8 t) ?_ (fun hj3 => ?_)
              · rintro x9
                show J _ (tens_Pick_c3 fu x5 x7 x8 x9) _
                unfold tens_Pick_c3
                refine J.chk fun h10 => ?_
                refine J.some ?_
                simp (disch := first | assumption | decide | with_unfolding_all rfl | omega | (simp only [LN] <;> omega) | (simp only [RO, OF])) only [RR, RM, LN, TT, d37_at, ↓reduceIte, Nat.reduceEqDiff, Nat.reduceLT, Nat.reduceLeDiff, Nat.reduceAdd, Nat.reduceSub, Nat.reduceMul, Nat.reduceMod, Nat.reduceDiv, Nat.reduceBEq, go_b64, bodyOf, Try.f64, d64_at, go_b65, bodyOf, Try.f65, d65_at, go_b66, bodyOf, Try.f66, d66_at, RI, RIk, initE, RH, e_h1, h2', e_h3, h4', h5', e_h6, h7', h8, h9, h10, FF, LN, NN, NT]
              · refine J.eq go_b66 ?_
                conv => arg 1; simp (maxSteps := 1000000) (disch := first | assumption | decide | with_unfolding_all rfl | omega | (simp only [LN] <;> omega) | (simp only [RO, OF])) only [RR, RM, LN, TT, d37_at, ↓reduceIte, Nat.reduceEqDiff, Nat.reduceLT, Nat.reduceLeDiff, Nat.reduceAdd, Nat.reduceSub, Nat.reduceMul, Nat.reduceMod, Nat.reduceDiv, Nat.reduceBEq, go_b64, bodyOf, Try.f64, d64_at, go_b65, bodyOf, Try.f65, d65_at, go_b66, bodyOf, Try.f66, d66_at, RI, initE, RH, e_h1, h2', e_h3, h4', h5', e_h6, h7', h8, h9]
                refine J.eq go_seq ?_
                conv => arg 1; simp (maxSteps := 1000000) (disch := first | assumption | decide | with_unfolding_all rfl | omega | (simp only [LN] <;> omega) | (simp only [RO, OF])) only [RR, RM, LN, TT, d37_at, ↓reduceIte, Nat.reduceEqDiff, Nat.reduceLT, Nat.reduceLeDiff, Nat.reduceAdd, Nat.reduceSub, Nat.reduceMul, Nat.reduceMod, Nat.reduceDiv, Nat.reduceBEq, go_b64, bodyOf, Try.f64, d64_at, go_b65, bodyOf, Try.f65, d65_at, go_b66, bodyOf, Try.f66, d66_at, RI, initE, RH, e_h1, h2', e_h3, h4', h5', e_h6, h7', h8, h9]
                refine J.ite (fun h11 => ?_) (fun h11 => ?_)
                · have h11' := decide_eq_true h11
                  conv => arg 1; simp (maxSteps := 1000000) (disch := first | assumption | decide | with_unfolding_all rfl | omega | (simp only [LN] <;> omega) | (simp only [RO, OF])) only [RR, RM, LN, TT, d37_at, ↓reduceIte, Nat.reduceEqDiff, Nat.reduceLT, Nat.reduceLeDiff, Nat.reduceAdd, Nat.reduceSub, Nat.reduceMul, Nat.reduceMod, Nat.reduceDiv, Nat.reduceBEq, go_b64, bodyOf, Try.f64, d64_at, go_b65, bodyOf, Try.f65, d65_at, go_b66, bodyOf, Try.f66, d66_at, RI, initE, RH, e_h1, h2', e_h3, h4', h5', e_h6, h7', h8, h9, h11']
                  refine J.kret (t := x5.1.fB) hj3 ?_
                  simp (disch := first | assumption | decide | with_unfolding_all rfl | omega | (simp only [LN] <;> omega) | (simp only [RO, OF])) only [RR, RM, LN, TT, d37_at, ↓reduceIte, Nat.reduceEqDiff, Nat.reduceLT, Nat.reduceLeDiff, Nat.reduceAdd, Nat.reduceSub, Nat.reduceMul, Nat.reduceMod, Nat.reduceDiv, Nat.reduceBEq, go_b64, bodyOf, Try.f64, d64_at, go_b65, bodyOf, Try.f65, d65_at, go_b66, bodyOf, Try.f66, d66_at, RI, initE, RH, e_h1, h2', e_h3, h4', h5', e_h6, h7', h8, h9, h11', kinV_at, kinVB_at, LN, NN, NT]
                · have h11' := decide_eq_false h11
                  conv => arg 1; simp (maxSteps := 1000000) (disch := first | assumption | decide | with_unfolding_all rfl | omega | (simp only [LN] <;> omega) | (simp only [RO, OF])) only [RR, RM, LN, TT, d37_at, ↓reduceIte, Nat.reduceEqDiff, Nat.reduceLT, Nat.reduceLeDiff, Nat.reduceAdd, Nat.reduceSub, Nat.reduceMul, Nat.reduceMod, Nat.reduceDiv, Nat.reduceBEq, go_b64, bodyOf, Try.f64, d64_at, go_b65, bodyOf, Try.f65, d65_at, go_b66, bodyOf, Try.f66, d66_at, RI, initE, RH, e_h1, h2', e_h3, h4', h5', e_h6, h7', h8, h9, h11']
                  refine J.eq ret_seq ?_
                  conv => arg 1; simp (maxSteps := 1000000) (disch := first | assumption | decide | with_unfolding_all rfl | omega | (simp only [LN] <;> omega) | (simp only [RO, OF])) only [RR, RM, LN, TT, d37_at, ↓reduceIte, Nat.reduceEqDiff, Nat.reduceLT, Nat.reduceLeDiff, Nat.reduceAdd, Nat.reduceSub, Nat.reduceMul, Nat.reduceMod, Nat.reduceDiv, Nat.reduceBEq, go_b64, bodyOf, Try.f64, d64_at, go_b65, bodyOf, Try.f65, d65_at, go_b66, bodyOf, Try.f66, d66_at, RI, initE, RH, e_h1, h2', e_h3, h4', h5', e_h6, h7', h8, h9, h11']
                  unfold tens_Pick_W1
                  refine J.loop (fun (s : (List Bool) × Int) => ([(0, .own (0, 22, 3) 0 x5.1.fB.length x5.1.fB.length), (1, .arr x1.fB.length (lm (bk) x1.fB)), (11, .arr x3.length (lm (ik .i64) x3)), (12, .v (.int .i64 (x3.length : Int))), (13, .v (.int .i64 s.2))], [((0, 3, 0), .bx true ([.v (.int .i64 x1.fType), .arr x1.fDims.length (lm (ik .i64) x1.fDims), .arr x1.fF.length (lm (ik .u32) x1.fF), .arr x1.fI.length (lm (ik .i64) x1.fI), .arr x1.fB.length (lm (bk) x1.fB)])), ((0, 6, 0), .bx true ([.v (.int .i64 0), .v (.slice none 0 0), .v (.slice none 0 0), .v (.slice none 0 0), .v (.slice none 0 0)])), ((0, 22, 0), .sl true true 1 x5.1.fDims.length (lm (ik .i64) x5.1.fDims)), ((0, 22, 1), .sl true true 1 x7.length (lm (ik .u32) x7)), ((0, 22, 2), .sl true true 1 x8.length (lm (ik .i64) x8)), ((0, 22, 3), .sl true true 1 x5.1.fB.length (lm (bk) s.1)), ((0, 9, 0), .bx true ([.v (.int .i64 x5.1.fType), .own (0, 22, 0) 0 x5.1.fDims.length x5.1.fDims.length, .own (0, 22, 1) 0 x7.length x7.length, .own (0, 22, 2) 0 x8.length x8.length, .own (0, 22, 3) 0 x5.1.fB.length x5.1.fB.length]))])) (fun next s => tens_Pick_L1 fu x1 x3 x5 x7 x8 (fun x12 x13 => next (x12, x13)) s.1 s.2) (s0 := (x5.1.fB, 0)) ?_ ?_ ?_
                  · first | rfl | (simp only [LN, NN, NT])
                  · first | (simp (disch := first | assumption | decide | with_unfolding_all rfl | omega | (simp only [LN] <;> omega) | (simp only [RO, OF])) only [RR, ↓reduceIte, Nat.reduceEqDiff, Nat.reduceLT, Nat.reduceLeDiff, Nat.reduceAdd, Nat.reduceSub, Nat.reduceMul, Nat.reduceMod, Nat.reduceDiv, Nat.reduceBEq, LN, NN, NT]; done) | rfl
                  rintro next k1 hn1 ⟨x12, x13⟩
                  let nx1 : (List Bool) → Int → Option (T_Tensor × Int) := (fun x12 x13 => next (x12, x13))
                  show J _ (tens_Pick_L1 fu x1 x3 x5 x7 x8 nx1 x12 x13) _
                  unfold tens_Pick_L1
                  conv => arg 1; simp (maxSteps := 1000000) (disch := first | assumption | decide | with_unfolding_all rfl | omega | (simp only [LN] <;> omega) | (simp only [RO, OF])) only [RR, RM, LN, TT, d37_at, ↓reduceIte, Nat.reduceEqDiff, Nat.reduceLT, Nat.reduceLeDiff, Nat.reduceAdd, Nat.reduceSub, Nat.reduceMul, Nat.reduceMod, Nat.reduceDiv, Nat.reduceBEq, go_b64, bodyOf, Try.f64, d64_at, go_b65, bodyOf, Try.f65, d65_at, go_b66, bodyOf, Try.f66, d66_at, RI, initE, RH, e_h1, h2', e_h3, h4', h5', e_h6, h7', h8, h9, h11']
                  refine J.eq go_seq ?_
                  conv => arg 1; simp (maxSteps := 1000000) (disch := first | assumption | decide | with_unfolding_all rfl | omega | (simp only [LN] <;> omega) | (simp only [RO, OF])) only [RR, RM, LN, TT, d37_at, ↓reduceIte, Nat.reduceEqDiff, Nat.reduceLT, Nat.reduceLeDiff, Nat.reduceAdd, Nat.reduceSub, Nat.reduceMul, Nat.reduceMod, Nat.reduceDiv, Nat.reduceBEq, go_b64, bodyOf, Try.f64, d64_at, go_b65, bodyOf, Try.f65, d65_at, go_b66, bodyOf, Try.f66, d66_at, RI, initE, RH, e_h1, h2', e_h3, h4', h5', e_h6, h7', h8, h9, h11']
                  refine J.ite (fun h12 => ?_) (fun h12 => ?_)
                  · have h12' := decide_eq_true h12
                    have h12'' : decide ((x3.length : Int) ≤ x13) = false := decide_eq_false (by omega)
                    conv => arg 1; simp (maxSteps := 1000000) (disch := first | assumption | decide | with_unfolding_all rfl | omega | (simp only [LN] <;> omega) | (simp only [RO, OF])) only [RR, RM, LN, TT, d37_at, ↓reduceIte, Nat.reduceEqDiff, Nat.reduceLT, Nat.reduceLeDiff, Nat.reduceAdd, Nat.reduceSub, Nat.reduceMul, Nat.reduceMod, Nat.reduceDiv, Nat.reduceBEq, go_b64, bodyOf, Try.f64, d64_at, go_b65, bodyOf, Try.f65, d65_at, go_b66, bodyOf, Try.f66, d66_at, RI, initE, RH, e_h1, h2', e_h3, h4', h5', e_h6, h7', h8, h9, h11', h12'', h12']
                    refine J.eq ret_seq ?_
                    refine J.eq go_seq ?_
                    refine J.at fun x16 h13 h14 h15 => ?_
                    conv => arg 1; simp (maxSteps := 1000000) (disch := first | assumption | decide | with_unfolding_all rfl | omega | (simp only [LN] <;> omega) | (simp only [RO, OF])) only [RR, RM, LN, TT, d37_at, ↓reduceIte, Nat.reduceEqDiff, Nat.reduceLT, Nat.reduceLeDiff, Nat.reduceAdd, Nat.reduceSub, Nat.reduceMul, Nat.reduceMod, Nat.reduceDiv, Nat.reduceBEq, go_b64, bodyOf, Try.f64, d64_at, go_b65, bodyOf, Try.f65, d65_at, go_b66, bodyOf, Try.f66, d66_at, RI, initE, RH, e_h1, h2', e_h3, h4', h5', e_h6, h7', h8, h9, h11', h12'', h12', lm_ik h15]
                    refine J.ite (fun h16 => ?_) (fun h16 => ?_)
                    · have h16' := decide_eq_true h16
                      have h16'' : decide (x16 < 0) = false := decide_eq_false (by omega)
                      refine J.at fun x17 h17 h18 h19 => ?_
                      refine J.chk fun h20 => ?_
                      refine J.chk fun h21 => ?_
                      conv => arg 1; simp (maxSteps := 1000000) (disch := first | assumption | decide | with_unfolding_all rfl | omega | (simp only [LN] <;> omega) | (simp only [RO, OF])) only [RR, RM, LN, TT, d37_at, ↓reduceIte, Nat.reduceEqDiff, Nat.reduceLT, Nat.reduceLeDiff, Nat.reduceAdd, Nat.reduceSub, Nat.reduceMul, Nat.reduceMod, Nat.reduceDiv, Nat.reduceBEq, go_b64, bodyOf, Try.f64, d64_at, go_b65, bodyOf, Try.f65, d65_at, go_b66, bodyOf, Try.f66, d66_at, RI, initE, RH, e_h1, h2', e_h3, h4', h5', e_h6, h7', h8, h9, h11', h12'', h12', lm_ik h15, h16'', h16', lm_bk h19]
                      refine J.eq ret_seq ?_
                      conv => arg 1; simp (maxSteps := 1000000) (disch := first | assumption | decide | with_unfolding_all rfl | omega | (simp only [LN] <;> omega) | (simp only [RO, OF])) only [RR, RM, LN, TT, d37_at, ↓reduceIte, Nat.reduceEqDiff, Nat.reduceLT, Nat.reduceLeDiff, Nat.reduceAdd, Nat.reduceSub, Nat.reduceMul, Nat.reduceMod, Nat.reduceDiv, Nat.reduceBEq, go_b64, bodyOf, Try.f64, d64_at, go_b65, bodyOf, Try.f65, d65_at, go_b66, bodyOf, Try.f66, d66_at, RI, initE, RH, e_h1, h2', e_h3, h4', h5', e_h6, h7', h8, h9, h11', h12'', h12', lm_ik h15, h16'', h16', lm_bk h19]
                      refine J.next (s := (x12.set x13.toNat x17, wk .i64 (x13 + 1))) hn1 ?_ ?_
                      · first | rfl | (simp only [LN, NN, NT])
                      · first | (simp (disch := first | assumption | decide | with_unfolding_all rfl | omega | (simp only [LN] <;> omega) | (simp only [RO, OF])) only [RR, ↓reduceIte, Nat.reduceEqDiff, Nat.reduceLT, Nat.reduceLeDiff, Nat.reduceAdd, Nat.reduceSub, Nat.reduceMul, Nat.reduceMod, Nat.reduceDiv, Nat.reduceBEq, LN, NN, NT]; done) | rfl
                    · have h16' := decide_eq_false h16
                      have h16'' : decide (x16 < 0) = true := decide_eq_true (by omega)
                      conv => arg 1; simp (maxSteps := 1000000) (disch := first | assumption | decide | with_unfolding_all rfl | omega | (simp only [LN] <;> omega) | (simp only [RO, OF])) only [RR, RM, LN, TT, d37_at, ↓reduceIte, Nat.reduceEqDiff, Nat.reduceLT, Nat.reduceLeDiff, Nat.reduceAdd, Nat.reduceSub, Nat.reduceMul, Nat.reduceMod, Nat.reduceDiv, Nat.reduceBEq, go_b64, bodyOf, Try.f64, d64_at, go_b65, bodyOf, Try.f65, d65_at, go_b66, bodyOf, Try.f66, d66_at, RI, initE, RH, e_h1, h2', e_h3, h4', h5', e_h6, h7', h8, h9, h11', h12'', h12', lm_ik h15, h16'', h16']
                      refine J.eq ret_seq ?_
                      conv => arg 1; simp (maxSteps := 1000000) (disch := first | assumption | decide | with_unfolding_all rfl | omega | (simp only [LN] <;> omega) | (simp only [RO, OF])) only [RR, RM, LN, TT, d37_at, ↓reduceIte, Nat.reduceEqDiff, Nat.reduceLT, Nat.reduceLeDiff, Nat.reduceAdd, Nat.reduceSub, Nat.reduceMul, Nat.reduceMod, Nat.reduceDiv, Nat.reduceBEq, go_b64, bodyOf, Try.f64, d64_at, go_b65, bodyOf, Try.f65, d65_at, go_b66, bodyOf, Try.f66, d66_at, RI, initE, RH, e_h1, h2', e_h3, h4', h5', e_h6, h7', h8, h9, h11', h12'', h12', lm_ik h15, h16'', h16']
                      refine J.next (s := (x12, wk .i64 (x13 + 1))) hn1 ?_ ?_
                      · first | rfl | (simp only [LN, NN, NT])
                      · first | (simp (disch := first | assumption | decide | with_unfolding_all rfl | omega | (simp only [LN] <;> omega) | (simp only [RO, OF])) only [RR, ↓reduceIte, Nat.reduceEqDiff, Nat.reduceLT, Nat.reduceLeDiff, Nat.reduceAdd, Nat.reduceSub, Nat.reduceMul, Nat.reduceMod, Nat.reduceDiv, Nat.reduceBEq, LN, NN, NT]; done) | rfl
                  · have h12' := decide_eq_false h12
                    have h12'' : decide ((x3.length : Int) ≤ x13) = true := decide_eq_true (by omega)
                    conv => arg 1; simp (maxSteps := 1000000) (disch := first | assumption | decide | with_unfolding_all rfl | omega | (simp only [LN] <;> omega) | (simp only [RO, OF])) only [RR, RM, LN, TT, d37_at, ↓reduceIte, Nat.reduceEqDiff, Nat.reduceLT, Nat.reduceLeDiff, Nat.reduceAdd, Nat.reduceSub, Nat.reduceMul, Nat.reduceMod, Nat.reduceDiv, Nat.reduceBEq, go_b64, bodyOf, Try.f64, d64_at, go_b65, bodyOf, Try.f65, d65_at, go_b66, bodyOf, Try.f66, d66_at, RI, initE, RH, e_h1, h2', e_h3, h4', h5', e_h6, h7', h8, h9, h11', h12'', h12']
                    refine J.knormal (t := x12) hj3 ?_
                    simp (disch := first | assumption | decide | with_unfolding_all rfl | omega | (simp only [LN] <;> omega) | (simp only [RO, OF])) only [RR, RM, LN, TT, d37_at, ↓reduceIte, Nat.reduceEqDiff, Nat.reduceLT, Nat.reduceLeDiff, Nat.reduceAdd, Nat.reduceSub, Nat.reduceMul, Nat.reduceMod, Nat.reduceDiv, Nat.reduceBEq, go_b64, bodyOf, Try.f64, d64_at, go_b65, bodyOf, Try.f65, d65_at, go_b66, bodyOf, Try.f66, d66_at, RI, initE, RH, e_h1, h2', e_h3, h4', h5', e_h6, h7', h8, h9, h11', h12'', h12', kinV_at, kinVB_at, LN, NN, NT]
            · refine J.eq go_b65 ?_
              conv => arg 1; simp (maxSteps := 1000000) (disch := first | assumption | decide | with_unfolding_all rfl | omega | (simp only [LN] <;> omega) | (simp only [RO, OF])) only [RR, RM, LN, TT, d37_at, ↓reduceIte, Nat.reduceEqDiff, Nat.reduceLT, Nat.reduceLeDiff, Nat.reduceAdd, Nat.reduceSub, Nat.reduceMul, Nat.reduceMod, Nat.reduceDiv, Nat.reduceBEq, go_b64, bodyOf, Try.f64, d64_at, go_b65, bodyOf, Try.f65, d65_at, go_b66, bodyOf, Try.f66, d66_at, RI, initE, RH, e_h1, h2', e_h3, h4', h5', e_h6, h7', h8]
              refine J.eq go_seq ?_
              conv => arg 1; simp (maxSteps := 1000000) (disch := first | assumption | decide | with_unfolding_all rfl | omega | (simp only [LN] <;> omega) | (simp only [RO, OF])) only [RR, RM, LN, TT, d37_at, ↓reduceIte, Nat.reduceEqDiff, Nat.reduceLT, Nat.reduceLeDiff, Nat.reduceAdd, Nat.reduceSub, Nat.reduceMul, Nat.reduceMod, Nat.reduceDiv, Nat.reduceBEq, go_b64, bodyOf, Try.f64, d64_at, go_b65, bodyOf, Try.f65, d65_at, go_b66, bodyOf, Try.f66, d66_at, RI, initE, RH, e_h1, h2', e_h3, h4', h5', e_h6, h7', h8]
              refine J.ite (fun h22 => ?_) (fun h22 => ?_)
              · have h22' := decide_eq_true h22
                conv => arg 1; simp (maxSteps := 1000000) (disch := first | assumption | decide | with_unfolding_all rfl | omega | (simp only [LN] <;> omega) | (simp only [RO, OF])) only [RR, RM, LN, TT, d37_at, ↓reduceIte, Nat.reduceEqDiff, Nat.reduceLT, Nat.reduceLeDiff, Nat.reduceAdd, Nat.reduceSub, Nat.reduceMul, Nat.reduceMod, Nat.reduceDiv, Nat.reduceBEq, go_b64, bodyOf, Try.f64, d64_at, go_b65, bodyOf, Try.f65, d65_at, go_b66, bodyOf, Try.f66, d66_at, RI, initE, RH, e_h1, h2', e_h3, h4', h5', e_h6, h7', h8, h22']
                refine J.kret (t := x5.1.fI) hj2 ?_
                simp (disch := first | assumption | decide | with_unfolding_all rfl | omega | (simp only [LN] <;> omega) | (simp only [RO, OF])) only [RR, RM, LN, TT, d37_at, ↓reduceIte, Nat.reduceEqDiff, Nat.reduceLT, Nat.reduceLeDiff, Nat.reduceAdd, Nat.reduceSub, Nat.reduceMul, Nat.reduceMod, Nat.reduceDiv, Nat.reduceBEq, go_b64, bodyOf, Try.f64, d64_at, go_b65, bodyOf, Try.f65, d65_at, go_b66, bodyOf, Try.f66, d66_at, RI, initE, RH, e_h1, h2', e_h3, h4', h5', e_h6, h7', h8, h22', kinV_at, kinVB_at, LN, NN, NT]
              · have h22' := decide_eq_false h22
                conv => arg 1; simp (maxSteps := 1000000) (disch := first | assumption | decide | with_unfolding_all rfl | omega | (simp only [LN] <;> omega) | (simp only [RO, OF])) only [RR, RM, LN, TT, d37_at, ↓reduceIte, Nat.reduceEqDiff, Nat.reduceLT, Nat.reduceLeDiff, Nat.reduceAdd, Nat.reduceSub, Nat.reduceMul, Nat.reduceMod, Nat.reduceDiv, Nat.reduceBEq, go_b64, bodyOf, Try.f64, d64_at, go_b65, bodyOf, Try.f65, d65_at, go_b66, bodyOf, Try.f66, d66_at, RI, initE, RH, e_h1, h2', e_h3, h4', h5', e_h6, h7', h8, h22']
                refine J.eq ret_seq ?_
                conv => arg 1; simp (maxSteps := 1000000) (disch := first | assumption | decide | with_unfolding_all rfl | omega | (simp only [LN] <;> omega) | (simp only [RO, OF])) only [RR, RM, LN, TT, d37_at, ↓reduceIte, Nat.reduceEqDiff, Nat.reduceLT, Nat.reduceLeDiff, Nat.reduceAdd, Nat.reduceSub, Nat.reduceMul, Nat.reduceMod, Nat.reduceDiv, Nat.reduceBEq, go_b64, bodyOf, Try.f64, d64_at, go_b65, bodyOf, Try.f65, d65_at, go_b66, bodyOf, Try.f66, d66_at, RI, initE, RH, e_h1, h2', e_h3, h4', h5', e_h6, h7', h8, h22']
                unfold tens_Pick_W2
                refine J.loop (fun (s : (List Int) × Int) => ([(0, .own (0, 22, 2) 0 x5.1.fI.length x5.1.fI.length), (1, .arr x1.fI.length (lm (ik .i64) x1.fI)), (11, .arr x3.length (lm (ik .i64) x3)), (12, .v (.int .i64 (x3.length : Int))), (13, .v (.int .i64 s.2))], [((0, 3, 0), .bx true ([.v (.int .i64 x1.fType), .arr x1.fDims.length (lm (ik .i64) x1.fDims), .arr x1.fF.length (lm (ik .u32) x1.fF), .arr x1.fI.length (lm (ik .i64) x1.fI), .arr x1.fB.length (lm (bk) x1.fB)])), ((0, 6, 0), .bx true ([.v (.int .i64 0), .v (.slice none 0 0), .v (.slice none 0 0), .v (.slice none 0 0), .v (.slice none 0 0)])), ((0, 22, 0), .sl true true 1 x5.1.fDims.length (lm (ik .i64) x5.1.fDims)), ((0, 22, 1), .sl true true 1 x7.length (lm (ik .u32) x7)), ((0, 22, 2), .sl true true 1 x5.1.fI.length (lm (ik .i64) s.1)), ((0, 22, 3), .sl true true 1 x5.1.fB.length (lm (bk) x5.1.fB)), ((0, 9, 0), .bx true ([.v (.int .i64 x5.1.fType), .own (0, 22, 0) 0 x5.1.fDims.length x5.1.fDims.length, .own (0, 22, 1) 0 x7.length x7.length, .own (0, 22, 2) 0 x5.1.fI.length x5.1.fI.length, .own (0, 22, 3) 0 x5.1.fB.length x5.1.fB.length]))])) (fun next s => tens_Pick_L2 fu x1 x3 x5 x7 (fun x20 x21 => next (x20, x21)) s.1 s.2) (s0 := (x5.1.fI, 0)) ?_ ?_ ?_
                · first | rfl | (simp only [LN, NN, NT])
                · first | (simp (disch := first | assumption | decide | with_unfolding_all rfl | omega | (simp only [LN] <;> omega) | (simp only [RO, OF])) only [RR, ↓reduceIte, Nat.reduceEqDiff, Nat.reduceLT, Nat.reduceLeDiff, Nat.reduceAdd, Nat.reduceSub, Nat.reduceMul, Nat.reduceMod, Nat.reduceDiv, Nat.reduceBEq, LN, NN, NT]; done) | rfl
                rintro next k2 hn2 ⟨x20, x21⟩
                let nx2 : (List Int) → Int → Option (T_Tensor × Int) := (fun x20 x21 => next (x20, x21))
                show J _ (tens_Pick_L2 fu x1 x3 x5 x7 nx2 x20 x21) _
                unfold tens_Pick_L2
                conv => arg 1; simp (maxSteps := 1000000) (disch := first | assumption | decide | with_unfolding_all rfl | omega | (simp only [LN] <;> omega) | (simp only [RO, OF])) only [RR, RM, LN, TT, d37_at, ↓reduceIte, Nat.reduceEqDiff, Nat.reduceLT, Nat.reduceLeDiff, Nat.reduceAdd, Nat.reduceSub, Nat.reduceMul, Nat.reduceMod, Nat.reduceDiv, Nat.reduceBEq, go_b64, bodyOf, Try.f64, d64_at, go_b65, bodyOf, Try.f65, d65_at, go_b66, bodyOf, Try.f66, d66_at, RI, initE, RH, e_h1, h2', e_h3, h4', h5', e_h6, h7', h8, h22']
                refine J.eq go_seq ?_
                conv => arg 1; simp (maxSteps := 1000000) (disch := first | assumption | decide | with_unfolding_all rfl | omega | (simp only [LN] <;> omega) | (simp only [RO, OF])) only [RR, RM, LN, TT, d37_at, ↓reduceIte, Nat.reduceEqDiff, Nat.reduceLT, Nat.reduceLeDiff, Nat.reduceAdd, Nat.reduceSub, Nat.reduceMul, Nat.reduceMod, Nat.reduceDiv, Nat.reduceBEq, go_b64, bodyOf, Try.f64, d64_at, go_b65, bodyOf, Try.f65, d65_at, go_b66, bodyOf, Try.f66, d66_at, RI, initE, RH, e_h1, h2', e_h3, h4', h5', e_h6, h7', h8, h22']
                refine J.ite (fun h23 => ?_) (fun h23 => ?_)
                · have h23' := decide_eq_true h23
                  have h23'' : decide ((x3.length : Int) ≤ x21) = false := decide_eq_false (by omega)
                  conv => arg 1; simp (maxSteps := 1000000) (disch := first | assumption | decide | with_unfolding_all rfl | omega | (simp only [LN] <;> omega) | (simp only [RO, OF])) only [RR, RM, LN, TT, d37_at, ↓reduceIte, Nat.reduceEqDiff, Nat.reduceLT, Nat.reduceLeDiff, Nat.reduceAdd, Nat.reduceSub, Nat.reduceMul, Nat.reduceMod, Nat.reduceDiv, Nat.reduceBEq, go_b64, bodyOf, Try.f64, d64_at, go_b65, bodyOf, Try.f65, d65_at, go_b66, bodyOf, Try.f66, d66_at, RI, initE, RH, e_h1, h2', e_h3, h4', h5', e_h6, h7', h8, h22', h23'', h23']
                  refine J.eq ret_seq ?_
                  refine J.eq go_seq ?_
                  refine J.at fun x24 h24 h25 h26 => ?_
                  conv => arg 1; simp (maxSteps := 1000000) (disch := first | assumption | decide | with_unfolding_all rfl | omega | (simp only [LN] <;> omega) | (simp only [RO, OF])) only [RR, RM, LN, TT, d37_at, ↓reduceIte, Nat.reduceEqDiff, Nat.reduceLT, Nat.reduceLeDiff, Nat.reduceAdd, Nat.reduceSub, Nat.reduceMul, Nat.reduceMod, Nat.reduceDiv, Nat.reduceBEq, go_b64, bodyOf, Try.f64, d64_at, go_b65, bodyOf, Try.f65, d65_at, go_b66, bodyOf, Try.f66, d66_at, RI, initE, RH, e_h1, h2', e_h3, h4', h5', e_h6, h7', h8, h22', h23'', h23', lm_ik h26]
                  refine J.ite (fun h27 => ?_) (fun h27 => ?_)
                  · have h27' := decide_eq_true h27
                    have h27'' : decide (x24 < 0) = false := decide_eq_false (by omega)
                    refine J.at fun x25 h28 h29 h30 => ?_
                    refine J.chk fun h31 => ?_
                    refine J.chk fun h32 => ?_
                    conv => arg 1; simp (maxSteps := 1000000) (disch := first | assumption | decide | with_unfolding_all rfl | omega | (simp only [LN] <;> omega) | (simp only [RO, OF])) only [RR, RM, LN, TT, d37_at, ↓reduceIte, Nat.reduceEqDiff, Nat.reduceLT, Nat.reduceLeDiff, Nat.reduceAdd, Nat.reduceSub, Nat.reduceMul, Nat.reduceMod, Nat.reduceDiv, Nat.reduceBEq, go_b64, bodyOf, Try.f64, d64_at, go_b65, bodyOf, Try.f65, d65_at, go_b66, bodyOf, Try.f66, d66_at, RI, initE, RH, e_h1, h2', e_h3, h4', h5', e_h6, h7', h8, h22', h23'', h23', lm_ik h26, h27'', h27', lm_ik h30]
                    refine J.eq ret_seq ?_
                    conv => arg 1; simp (maxSteps := 1000000) (disch := first | assumption | decide | with_unfolding_all rfl | omega | (simp only [LN] <;> omega) | (simp only [RO, OF])) only [RR, RM, LN, TT, d37_at, ↓reduceIte, Nat.reduceEqDiff, Nat.reduceLT, Nat.reduceLeDiff, Nat.reduceAdd, Nat.reduceSub, Nat.reduceMul, Nat.reduceMod, Nat.reduceDiv, Nat.reduceBEq, go_b64, bodyOf, Try.f64, d64_at, go_b65, bodyOf, Try.f65, d65_at, go_b66, bodyOf, Try.f66, d66_at, RI, initE, RH, e_h1, h2', e_h3, h4', h5', e_h6, h7', h8, h22', h23'', h23', lm_ik h26, h27'', h27', lm_ik h30]
                    refine J.next (s := (x20.set x21.toNat x25, wk .i64 (x21 + 1))) hn2 ?_ ?_
                    · first | rfl | (simp only [LN, NN, NT])
                    · first | (simp (disch := first | assumption | decide | with_unfolding_all rfl | omega | (simp only [LN] <;> omega) | (simp only [RO, OF])) only [RR, ↓reduceIte, Nat.reduceEqDiff, Nat.reduceLT, Nat.reduceLeDiff, Nat.reduceAdd, Nat.reduceSub, Nat.reduceMul, Nat.reduceMod, Nat.reduceDiv, Nat.reduceBEq, LN, NN, NT]; done) | rfl
                  · have h27' := decide_eq_false h27
                    have h27'' : decide (x24 < 0) = true := decide_eq_true (by omega)
                    conv => arg 1; simp (maxSteps := 1000000) (disch := first | assumption | decide | with_unfolding_all rfl | omega | (simp only [LN] <;> omega) | (simp only [RO, OF])) only [RR, RM, LN, TT, d37_at, ↓reduceIte, Nat.reduceEqDiff, Nat.reduceLT, Nat.reduceLeDiff, Nat.reduceAdd, Nat.reduceSub, Nat.reduceMul, Nat.reduceMod, Nat.reduceDiv, Nat.reduceBEq, go_b64, bodyOf, Try.f64, d64_at, go_b65, bodyOf, Try.f65, d65_at, go_b66, bodyOf, Try.f66, d66_at, RI, initE, RH, e_h1, h2', e_h3, h4', h5', e_h6, h7', h8, h22', h23'', h23', lm_ik h26, h27'', h27']
                    refine J.eq ret_seq ?_
                    conv => arg 1; simp (maxSteps := 1000000) (disch := first | assumption | decide | with_unfolding_all rfl | omega | (simp only [LN] <;> omega) | (simp only [RO, OF])) only [RR, RM, LN, TT, d37_at, ↓reduceIte, Nat.reduceEqDiff, Nat.reduceLT, Nat.reduceLeDiff, Nat.reduceAdd, Nat.reduceSub, Nat.reduceMul, Nat.reduceMod, Nat.reduceDiv, Nat.reduceBEq, go_b64, bodyOf, Try.f64, d64_at, go_b65, bodyOf, Try.f65, d65_at, go_b66, bodyOf, Try.f66, d66_at, RI, initE, RH, e_h1, h2', e_h3, h4', h5', e_h6, h7', h8, h22', h23'', h23', lm_ik h26, h27'', h27']
                    refine J.next (s := (x20, wk .i64 (x21 + 1))) hn2 ?_ ?_
                    · first | rfl | (simp only [LN, NN, NT])
                    · first | (simp (disch := first | assumption | decide | with_unfolding_all rfl | omega | (simp only [LN] <;> omega) | (simp only [RO, OF])) only [RR, ↓reduceIte, Nat.reduceEqDiff, Nat.reduceLT, Nat.reduceLeDiff, Nat.reduceAdd, Nat.reduceSub, Nat.reduceMul, Nat.reduceMod, Nat.reduceDiv, Nat.reduceBEq, LN, NN, NT]; done) | rfl
                · have h23' := decide_eq_false h23
                  have h23'' : decide ((x3.length : Int) ≤ x21) = true := decide_eq_true (by omega)
                  conv => arg 1; simp (maxSteps := 1000000) (disch := first | assumption | decide | with_unfolding_all rfl | omega | (simp only [LN] <;> omega) | (simp only [RO, OF])) only [RR, RM, LN, TT, d37_at, ↓reduceIte, Nat.reduceEqDiff, Nat.reduceLT, Nat.reduceLeDiff, Nat.reduceAdd, Nat.reduceSub, Nat.reduceMul, Nat.reduceMod, Nat.reduceDiv, Nat.reduceBEq, go_b64, bodyOf, Try.f64, d64_at, go_b65, bodyOf, Try.f65, d65_at, go_b66, bodyOf, Try.f66, d66_at, RI, initE, RH, e_h1, h2', e_h3, h4', h5', e_h6, h7', h8, h22', h23'', h23']
                  refine J.knormal (t := x20) hj2 ?_
                  simp (disch := first | assumption | decide | with_unfolding_all rfl | omega | (simp only [LN] <;> omega) | (simp only [RO, OF])) only [RR, RM, LN, TT, d37_at, ↓reduceIte, Nat.reduceEqDiff, Nat.reduceLT, Nat.reduceLeDiff, Nat.reduceAdd, Nat.reduceSub, Nat.reduceMul, Nat.reduceMod, Nat.reduceDiv, Nat.reduceBEq, go_b64, bodyOf, Try.f64, d64_at, go_b65, bodyOf, Try.f65, d65_at, go_b66, bodyOf, Try.f66, d66_at, RI, initE, RH, e_h1, h2', e_h3, h4', h5', e_h6, h7', h8, h22', h23'', h23', kinV_at, kinVB_at, LN, NN, NT]
          · refine J.eq go_b64 ?_
            conv => arg 1; simp (maxSteps := 1000000) (disch := first | assumption | decide | with_unfolding_all rfl | omega | (simp only [LN] <;> omega) | (simp only [RO, OF])) only [RR, RM, LN, TT, d37_at, ↓reduceIte, Nat.reduceEqDiff, Nat.reduceLT, Nat.reduceLeDiff, Nat.reduceAdd, Nat.reduceSub, Nat.reduceMul, Nat.reduceMod, Nat.reduceDiv, Nat.reduceBEq, go_b64, bodyOf, Try.f64, d64_at, go_b65, bodyOf, Try.f65, d65_at, go_b66, bodyOf, Try.f66, d66_at, RI, initE, RH, e_h1, h2', e_h3, h4', h5', e_h6, h7']
            refine J.eq go_seq ?_
            conv => arg 1; simp (maxSteps := 1000000) (disch := first | assumption | decide | with_unfolding_all rfl | omega | (simp only [LN] <;> omega) | (simp only [RO, OF])) only [RR, RM, LN, TT, d37_at, ↓reduceIte, Nat.reduceEqDiff, Nat.reduceLT, Nat.reduceLeDiff, Nat.reduceAdd, Nat.reduceSub, Nat.reduceMul, Nat.reduceMod, Nat.reduceDiv, Nat.reduceBEq, go_b64, bodyOf, Try.f64, d64_at, go_b65, bodyOf, Try.f65, d65_at, go_b66, bodyOf, Try.f66, d66_at, RI, initE, RH, e_h1, h2', e_h3, h4', h5', e_h6, h7']
            refine J.ite (fun h33 => ?_) (fun h33 => ?_)
            · have h33' := decide_eq_true h33
              conv => arg 1; simp (maxSteps := 1000000) (disch := first | assumption | decide | with_unfolding_all rfl | omega | (simp only [LN] <;> omega) | (simp only [RO, OF])) only [RR, RM, LN, TT, d37_at, ↓reduceIte, Nat.reduceEqDiff, Nat.reduceLT, Nat.reduceLeDiff, Nat.reduceAdd, Nat.reduceSub, Nat.reduceMul, Nat.reduceMod, Nat.reduceDiv, Nat.reduceBEq, go_b64, bodyOf, Try.f64, d64_at, go_b65, bodyOf, Try.f65, d65_at, go_b66, bodyOf, Try.f66, d66_at, RI, initE, RH, e_h1, h2', e_h3, h4', h5', e_h6, h7', h33']
              refine J.kret (t := x5.1.fF) hj1 ?_
              simp (disch := first | assumption | decide | with_unfolding_all rfl | omega | (simp only [LN] <;> omega) | (simp only [RO, OF])) only [RR, RM, LN, TT, d37_at, ↓reduceIte, Nat.reduceEqDiff, Nat.reduceLT, Nat.reduceLeDiff, Nat.reduceAdd, Nat.reduceSub, Nat.reduceMul, Nat.reduceMod, Nat.reduceDiv, Nat.reduceBEq, go_b64, bodyOf, Try.f64, d64_at, go_b65, bodyOf, Try.f65, d65_at, go_b66, bodyOf, Try.f66, d66_at, RI, initE, RH, e_h1, h2', e_h3, h4', h5', e_h6, h7', h33', kinV_at, kinVB_at, LN, NN, NT]
            · have h33' := decide_eq_false h33
              conv => arg 1; simp (maxSteps := 1000000) (disch := first | assumption | decide | with_unfolding_all rfl | omega | (simp only [LN] <;> omega) | (simp only [RO, OF])) only [RR, RM, LN, TT, d37_at, ↓reduceIte, Nat.reduceEqDiff, Nat.reduceLT, Nat.reduceLeDiff, Nat.reduceAdd, Nat.reduceSub, Nat.reduceMul, Nat.reduceMod, Nat.reduceDiv, Nat.reduceBEq, go_b64, bodyOf, Try.f64, d64_at, go_b65, bodyOf, Try.f65, d65_at, go_b66, bodyOf, Try.f66, d66_at, RI, initE, RH, e_h1, h2', e_h3, h4', h5', e_h6, h7', h33']
              refine J.eq ret_seq ?_
              conv => arg 1; simp (maxSteps := 1000000) (disch := first | assumption | decide | with_unfolding_all rfl | omega | (simp only [LN] <;> omega) | (simp only [RO, OF])) only [RR, RM, LN, TT, d37_at, ↓reduceIte, Nat.reduceEqDiff, Nat.reduceLT, Nat.reduceLeDiff, Nat.reduceAdd, Nat.reduceSub, Nat.reduceMul, Nat.reduceMod, Nat.reduceDiv, Nat.reduceBEq, go_b64, bodyOf, Try.f64, d64_at, go_b65, bodyOf, Try.f65, d65_at, go_b66, bodyOf, Try.f66, d66_at, RI, initE, RH, e_h1, h2', e_h3, h4', h5', e_h6, h7', h33']
              unfold tens_Pick_W3
              refine J.loop (fun (s : (List Int) × Int) => ([(0, .own (0, 22, 1) 0 x5.1.fF.length x5.1.fF.length), (1, .arr x1.fF.length (lm (ik .u32) x1.fF)), (11, .arr x3.length (lm (ik .i64) x3)), (12, .v (.int .i64 (x3.length : Int))), (13, .v (.int .i64 s.2))], [((0, 3, 0), .bx true ([.v (.int .i64 x1.fType), .arr x1.fDims.length (lm (ik .i64) x1.fDims), .arr x1.fF.length (lm (ik .u32) x1.fF), .arr x1.fI.length (lm (ik .i64) x1.fI), .arr x1.fB.length (lm (bk) x1.fB)])), ((0, 6, 0), .bx true ([.v (.int .i64 0), .v (.slice none 0 0), .v (.slice none 0 0), .v (.slice none 0 0), .v (.slice none 0 0)])), ((0, 22, 0), .sl true true 1 x5.1.fDims.length (lm (ik .i64) x5.1.fDims)), ((0, 22, 1), .sl true true 1 x5.1.fF.length (lm (ik .u32) s.1)), ((0, 22, 2), .sl true true 1 x5.1.fI.length (lm (ik .i64) x5.1.fI)), ((0, 22, 3), .sl true true 1 x5.1.fB.length (lm (bk) x5.1.fB)), ((0, 9, 0), .bx true ([.v (.int .i64 x5.1.fType), .own (0, 22, 0) 0 x5.1.fDims.length x5.1.fDims.length, .own (0, 22, 1) 0 x5.1.fF.length x5.1.fF.length, .own (0, 22, 2) 0 x5.1.fI.length x5.1.fI.length, .own (0, 22, 3) 0 x5.1.fB.length x5.1.fB.length]))])) (fun next s => tens_Pick_L3 fu x1 x3 x5 (fun x28 x29 => next (x28, x29)) s.1 s.2) (s0 := (x5.1.fF, 0)) ?_ ?_ ?_
              · first | rfl | (simp only [LN, NN, NT])
              · first | (simp (disch := first | assumption | decide | with_unfolding_all rfl | omega | (simp only [LN] <;> omega) | (simp only [RO, OF])) only [RR, ↓reduceIte, Nat.reduceEqDiff, Nat.reduceLT, Nat.reduceLeDiff, Nat.reduceAdd, Nat.reduceSub, Nat.reduceMul, Nat.reduceMod, Nat.reduceDiv, Nat.reduceBEq, LN, NN, NT]; done) | rfl
              rintro next k3 hn3 ⟨x28, x29⟩
              let nx3 : (List Int) → Int → Option (T_Tensor × Int) := (fun x28 x29 => next (x28, x29))
              show J _ (tens_Pick_L3 fu x1 x3 x5 nx3 x28 x29) _
              unfold tens_Pick_L3
              conv => arg 1; simp (maxSteps := 1000000) (disch := first | assumption | decide | with_unfolding_all rfl | omega | (simp only [LN] <;> omega) | (simp only [RO, OF])) only [RR, RM, LN, TT, d37_at, ↓reduceIte, Nat.reduceEqDiff, Nat.reduceLT, Nat.reduceLeDiff, Nat.reduceAdd, Nat.reduceSub, Nat.reduceMul, Nat.reduceMod, Nat.reduceDiv, Nat.reduceBEq, go_b64, bodyOf, Try.f64, d64_at, go_b65, bodyOf, Try.f65, d65_at, go_b66, bodyOf, Try.f66, d66_at, RI, initE, RH, e_h1, h2', e_h3, h4', h5', e_h6, h7', h33']
              refine J.eq go_seq ?_
              conv => arg 1; simp (maxSteps := 1000000) (disch := first | assumption | decide | with_unfolding_all rfl | omega | (simp only [LN] <;> omega) | (simp only [RO, OF])) only [RR, RM, LN, TT, d37_at, ↓reduceIte, Nat.reduceEqDiff, Nat.reduceLT, Nat.reduceLeDiff, Nat.reduceAdd, Nat.reduceSub, Nat.reduceMul, Nat.reduceMod, Nat.reduceDiv, Nat.reduceBEq, go_b64, bodyOf, Try.f64, d64_at, go_b65, bodyOf, Try.f65, d65_at, go_b66, bodyOf, Try.f66, d66_at, RI, initE, RH, e_h1, h2', e_h3, h4', h5', e_h6, h7', h33']
              refine J.ite (fun h34 => ?_) (fun h34 => ?_)
              · have h34' := decide_eq_true h34
                have h34'' : decide ((x3.length : Int) ≤ x29) = false := decide_eq_false (by omega)
                conv => arg 1; simp (maxSteps := 1000000) (disch := first | assumption | decide | with_unfolding_all rfl | omega | (simp only [LN] <;> omega) | (simp only [RO, OF])) only [RR, RM, LN, TT, d37_at, ↓reduceIte, Nat.reduceEqDiff, Nat.reduceLT, Nat.reduceLeDiff, Nat.reduceAdd, Nat.reduceSub, Nat.reduceMul, Nat.reduceMod, Nat.reduceDiv, Nat.reduceBEq, go_b64, bodyOf, Try.f64, d64_at, go_b65, bodyOf, Try.f65, d65_at, go_b66, bodyOf, Try.f66, d66_at, RI, initE, RH, e_h1, h2', e_h3, h4', h5', e_h6, h7', h33', h34'', h34']
                refine J.eq ret_seq ?_
                refine J.eq go_seq ?_
                refine J.at fun x32 h35 h36 h37 => ?_
                conv => arg 1; simp (maxSteps := 1000000) (disch := first | assumption | decide | with_unfolding_all rfl | omega | (simp only [LN] <;> omega) | (simp only [RO, OF])) only [RR, RM, LN, TT, d37_at, ↓reduceIte, Nat.reduceEqDiff, Nat.reduceLT, Nat.reduceLeDiff, Nat.reduceAdd, Nat.reduceSub, Nat.reduceMul, Nat.reduceMod, Nat.reduceDiv, Nat.reduceBEq, go_b64, bodyOf, Try.f64, d64_at, go_b65, bodyOf, Try.f65, d65_at, go_b66, bodyOf, Try.f66, d66_at, RI, initE, RH, e_h1, h2', e_h3, h4', h5', e_h6, h7', h33', h34'', h34', lm_ik h37]
                refine J.ite (fun h38 => ?_) (fun h38 => ?_)
                · have h38' := decide_eq_true h38
                  have h38'' : decide (x32 < 0) = false := decide_eq_false (by omega)
                  refine J.at fun x33 h39 h40 h41 => ?_
                  refine J.chk fun h42 => ?_
                  refine J.chk fun h43 => ?_
                  conv => arg 1; simp (maxSteps := 1000000) (disch := first | assumption | decide | with_unfolding_all rfl | omega | (simp only [LN] <;> omega) | (simp only [RO, OF])) only [RR, RM, LN, TT, d37_at, ↓reduceIte, Nat.reduceEqDiff, Nat.reduceLT, Nat.reduceLeDiff, Nat.reduceAdd, Nat.reduceSub, Nat.reduceMul, Nat.reduceMod, Nat.reduceDiv, Nat.reduceBEq, go_b64, bodyOf, Try.f64, d64_at, go_b65, bodyOf, Try.f65, d65_at, go_b66, bodyOf, Try.f66, d66_at, RI, initE, RH, e_h1, h2', e_h3, h4', h5', e_h6, h7', h33', h34'', h34', lm_ik h37, h38'', h38', lm_ik h41]
                  refine J.eq ret_seq ?_
                  conv => arg 1; simp (maxSteps := 1000000) (disch := first | assumption | decide | with_unfolding_all rfl | omega | (simp only [LN] <;> omega) | (simp only [RO, OF])) only [RR, RM, LN, TT, d37_at, ↓reduceIte, Nat.reduceEqDiff, Nat.reduceLT, Nat.reduceLeDiff, Nat.reduceAdd, Nat.reduceSub, Nat.reduceMul, Nat.reduceMod, Nat.reduceDiv, Nat.reduceBEq, go_b64, bodyOf, Try.f64, d64_at, go_b65, bodyOf, Try.f65, d65_at, go_b66, bodyOf, Try.f66, d66_at, RI, initE, RH, e_h1, h2', e_h3, h4', h5', e_h6, h7', h33', h34'', h34', lm_ik h37, h38'', h38', lm_ik h41]
                  refine J.next (s := (x28.set x29.toNat x33, wk .i64 (x29 + 1))) hn3 ?_ ?_
                  · first | rfl | (simp only [LN, NN, NT])
                  · first | (simp (disch := first | assumption | decide | with_unfolding_all rfl | omega | (simp only [LN] <;> omega) | (simp only [RO, OF])) only [RR, ↓reduceIte, Nat.reduceEqDiff, Nat.reduceLT, Nat.reduceLeDiff, Nat.reduceAdd, Nat.reduceSub, Nat.reduceMul, Nat.reduceMod, Nat.reduceDiv, Nat.reduceBEq, LN, NN, NT]; done) | rfl
                · have h38' := decide_eq_false h38
                  have h38'' : decide (x32 < 0) = true := decide_eq_true (by omega)
                  conv => arg 1; simp (maxSteps := 1000000) (disch := first | assumption | decide | with_unfolding_all rfl | omega | (simp only [LN] <;> omega) | (simp only [RO, OF])) only [RR, RM, LN, TT, d37_at, ↓reduceIte, Nat.reduceEqDiff, Nat.reduceLT, Nat.reduceLeDiff, Nat.reduceAdd, Nat.reduceSub, Nat.reduceMul, Nat.reduceMod, Nat.reduceDiv, Nat.reduceBEq, go_b64, bodyOf, Try.f64, d64_at, go_b65, bodyOf, Try.f65, d65_at, go_b66, bodyOf, Try.f66, d66_at, RI, initE, RH, e_h1, h2', e_h3, h4', h5', e_h6, h7', h33', h34'', h34', lm_ik h37, h38'', h38']
                  refine J.eq ret_seq ?_
                  conv => arg 1; simp (maxSteps := 1000000) (disch := first | assumption | decide | with_unfolding_all rfl | omega | (simp only [LN] <;> omega) | (simp only [RO, OF])) only [RR, RM, LN, TT, d37_at, ↓reduceIte, Nat.reduceEqDiff, Nat.reduceLT, Nat.reduceLeDiff, Nat.reduceAdd, Nat.reduceSub, Nat.reduceMul, Nat.reduceMod, Nat.reduceDiv, Nat.reduceBEq, go_b64, bodyOf, Try.f64, d64_at, go_b65, bodyOf, Try.f65, d65_at, go_b66, bodyOf, Try.f66, d66_at, RI, initE, RH, e_h1, h2', e_h3, h4', h5', e_h6, h7', h33', h34'', h34', lm_ik h37, h38'', h38']
                  refine J.next (s := (x28, wk .i64 (x29 + 1))) hn3 ?_ ?_
                  · first | rfl | (simp only [LN, NN, NT])
                  · first | (simp (disch := first | assumption | decide | with_unfolding_all rfl | omega | (simp only [LN] <;> omega) | (simp only [RO, OF])) only [RR, ↓reduceIte, Nat.reduceEqDiff, Nat.reduceLT, Nat.reduceLeDiff, Nat.reduceAdd, Nat.reduceSub, Nat.reduceMul, Nat.reduceMod, Nat.reduceDiv, Nat.reduceBEq, LN, NN, NT]; done) | rfl
              · have h34' := decide_eq_false h34
                have h34'' : decide ((x3.length : Int) ≤ x29) = true := decide_eq_true (by omega)
                conv => arg 1; simp (maxSteps := 1000000) (disch := first | assumption | decide | with_unfolding_all rfl | omega | (simp only [LN] <;> omega) | (simp only [RO, OF])) only [RR, RM, LN, TT, d37_at, ↓reduceIte, Nat.reduceEqDiff, Nat.reduceLT, Nat.reduceLeDiff, Nat.reduceAdd, Nat.reduceSub, Nat.reduceMul, Nat.reduceMod, Nat.reduceDiv, Nat.reduceBEq, go_b64, bodyOf, Try.f64, d64_at, go_b65, bodyOf, Try.f65, d65_at, go_b66, bodyOf, Try.f66, d66_at, RI, initE, RH, e_h1, h2', e_h3, h4', h5', e_h6, h7', h33', h34'', h34']
                refine J.knormal (t := x28) hj1 ?_
                simp (disch := first | assumption | decide | with_unfolding_all rfl | omega | (simp only [LN] <;> omega) | (simp only [RO, OF])) only [RR, RM, LN, TT, d37_at, ↓reduceIte, Nat.reduceEqDiff, Nat.reduceLT, Nat.reduceLeDiff, Nat.reduceAdd, Nat.reduceSub, Nat.reduceMul, Nat.reduceMod, Nat.reduceDiv, Nat.reduceBEq, go_b64, bodyOf, Try.f64, d64_at, go_b65, bodyOf, Try.f65, d65_at, go_b66, bodyOf, Try.f66, d66_at, RI, initE, RH, e_h1, h2', e_h3, h4', h5', e_h6, h7', h33', h34'', h34', kinV_at, kinVB_at, LN, NN, NT]
      · have h5' := decide_eq_false h5
        refine J.some ?_
        simp (disch := first | assumption | decide | with_unfolding_all rfl | omega | (simp only [LN] <;> omega) | (simp only [RO, OF])) only [RR, RM, LN, TT, d37_at, ↓reduceIte, Nat.reduceEqDiff, Nat.reduceLT, Nat.reduceLeDiff, Nat.reduceAdd, Nat.reduceSub, Nat.reduceMul, Nat.reduceMod, Nat.reduceDiv, Nat.reduceBEq, go_b64, bodyOf, Try.f64, d64_at, go_b65, bodyOf, Try.f65, d65_at, go_b66, bodyOf, Try.f66, d66_at, RI, RIk, initE, RH, e_h1, h2', e_h3, h4', h5', FF, LN, NN, NT]
    · have h4' := decide_eq_false h4
      refine J.some ?_
      simp (disch := first | assumption | decide | with_unfolding_all rfl | omega | (simp only [LN] <;> omega) | (simp only [RO, OF])) only [RR, RM, LN, TT, d37_at, ↓reduceIte, Nat.reduceEqDiff, Nat.reduceLT, Nat.reduceLeDiff, Nat.reduceAdd, Nat.reduceSub, Nat.reduceMul, Nat.reduceMod, Nat.reduceDiv, Nat.reduceBEq, go_b64, bodyOf, Try.f64, d64_at, go_b65, bodyOf, Try.f65, d65_at, go_b66, bodyOf, Try.f66, d66_at, RI, RIk, initE, RH, e_h1, h2', e_h3, h4', FF, LN, NN, NT]
  · have h2' := decide_eq_false h2
    refine J.some ?_
    simp (disch := first | assumption | decide | with_unfolding_all rfl | omega | (simp only [LN] <;> omega) | (simp only [RO, OF])) only [RR, RM, LN, TT, d37_at, ↓reduceIte, Nat.reduceEqDiff, Nat.reduceLT, Nat.reduceLeDiff, Nat.reduceAdd, Nat.reduceSub, Nat.reduceMul, Nat.reduceMod, Nat.reduceDiv, Nat.reduceBEq, go_b64, bodyOf, Try.f64, d64_at, go_b65, bodyOf, Try.f65, d65_at, go_b66, bodyOf, Try.f66, d66_at, RI, RIk, initE, RH, e_h1, h2', FF, LN, NN, NT]
noncomputable def t37 (fu : Nat) : CallP := orE 48 (mkC (fun (t : T_Tensor) => ([.agg (c_T_Tensor t)] : List AV)) (fun t => tens_Check fu t) e48) (orE 30 (mkC (fun (t : Int × (List Int)) => ([.v (.int .i64 t.1), .arr t.2.length (lm (ik .i64) t.2)] : List AV)) (fun t => tens_New fu t.1 t.2) e30) (orE 53 (mkC (fun (t : (List Int) × Int) => ([.arr t.1.length (lm (ik .i64) t.1), .fn 63 [] [.ref [.v (.int .i64 t.2)] 0]] : List AV)) (fun t => slices_ContainsFunc_int fu t.1 (fun y0 => tens_Pick_1 fu y0 t.2)) e53) (noP)))
theorem t37_ok (fu : Nat) : CpOK Try.prog (t37 fu ) := orE_ok (orE_ok (orE_ok (noP_ok) (mkC_ok (fun t b h => ok53 fu t.1 (fun y0 => tens_Pick_1 fu y0 t.2) 63 [.ref [.v (.int .i64 t.2)] 0] (Capt.ref Capt.nil) (fun y0 r h => ok63 fu y0 t.2 r h) b h))) (mkC_ok (fun t b h => ok30 fu t.1 t.2  b h))) (mkC_ok (fun t b h => ok48 fu t  b h))
theorem ok37 (fu : Nat) (x1 : T_Tensor) (x2 : List Int) (x3 : List Int) (r) (h : tens_Pick fu x1 x2 x3 = some r) : PureOK Try.prog 37 [.agg (c_T_Tensor x1), .arr x2.length (lm (ik .i64) x2), .arr x3.length (lm (ik .i64) x3)] (e37 r) :=
  pure_J mixed (cp := t37 fu ) (t37_ok fu  ) (ciE_ok mixed (t37_ok fu  ) i64 (ciE_ok mixed (t37_ok fu  ) i65 (ciE_ok mixed (t37_ok fu  ) i66 noI_ok))) i37 (w37 _ fu x1 x2 x3  (fun a0 r h => orE_hit (mkC_at (a := a0) (by intro a b h; first | (exact rfl) | (simp only [INJ, c_inj_iff c_T_Tensor_inj, lm_inj_iff (inj_avf (inj_fm c_T_Tensor_len (by decide) c_T_Tensor_inj)), fm_inj_iff (inj_fm c_T_Tensor_len (by decide) c_T_Tensor_inj)] at h; first | exact h | (simp_all [Prod.ext_iff]) )) h)) (fun a0 a1 r h => orE_miss (by decide) (orE_hit (mkC_at (a := (a0, a1)) (by intro a b h; first | (exact rfl) | (simp only [INJ, c_inj_iff c_T_Tensor_inj, lm_inj_iff (inj_avf (inj_fm c_T_Tensor_len (by decide) c_T_Tensor_inj)), fm_inj_iff (inj_fm c_T_Tensor_len (by decide) c_T_Tensor_inj)] at h; first | exact h | (simp_all [Prod.ext_iff]) )) h))) (fun a0 c1 r h => orE_miss (by decide) (orE_miss (by decide) (orE_hit (mkC_at (a := (a0, c1)) (by intro a b h; first | (exact rfl) | (simp only [INJ, c_inj_iff c_T_Tensor_inj, lm_inj_iff (inj_avf (inj_fm c_T_Tensor_len (by decide) c_T_Tensor_inj)), fm_inj_iff (inj_fm c_T_Tensor_len (by decide) c_T_Tensor_inj)] at h; first | exact h | (simp_all [Prod.ext_iff]) )) h))))) h
/-! 39: lattice/tens.Ints -/
def d39 : List (Nat × List Nat) := [(0, [0, 2, 3]), (0, [4]), (0, [8, 9]), (0, [24, 25, 26]), (0, [11, 12]), (0, []), (0, [13]), (0, []), (0, [15, 16, 17]), (0, []), (0, []), (0, []), (0, [19, 20, 21, 22]), (0, []), (0, []), (0, []), (0, [1000005]), (0, []), (0, [1, 23]), (0, []), (0, []), (0, []), (0, [28, 29]), (0, []), (0, [7, 30, 31, 32, 33]), (0, []), (0, [34]), (0, []), (0, [5, 35])]
def d39_at := And.intro (show d39.getD 0 (0, []) = (0, [0, 2, 3]) from rfl) <| And.intro (show d39.getD 1 (0, []) = (0, [4]) from rfl) <| And.intro (show d39.getD 2 (0, []) = (0, [8, 9]) from rfl) <| And.intro (show d39.getD 3 (0, []) = (0, [24, 25, 26]) from rfl) <| And.intro (show d39.getD 4 (0, []) = (0, [11, 12]) from rfl) <| And.intro (show d39.getD 5 (0, []) = (0, []) from rfl) <| And.intro (show d39.getD 6 (0, []) = (0, [13]) from rfl) <| And.intro (show d39.getD 7 (0, []) = (0, []) from rfl) <| And.intro (show d39.getD 8 (0, []) = (0, [15, 16, 17]) from rfl) <| And.intro (show d39.getD 9 (0, []) = (0, []) from rfl) <| And.intro (show d39.getD 10 (0, []) = (0, []) from rfl) <| And.intro (show d39.getD 11 (0, []) = (0, []) from rfl) <| And.intro (show d39.getD 12 (0, []) = (0, [19, 20, 21, 22]) from rfl) <| And.intro (show d39.getD 13 (0, []) = (0, []) from rfl) <| And.intro (show d39.getD 14 (0, []) = (0, []) from rfl) <| And.intro (show d39.getD 15 (0, []) = (0, []) from rfl) <| And.intro (show d39.getD 16 (0, []) = (0, [1000005]) from rfl) <| And.intro (show d39.getD 17 (0, []) = (0, []) from rfl) <| And.intro (show d39.getD 18 (0, []) = (0, [1, 23]) from rfl) <| And.intro (show d39.getD 19 (0, []) = (0, []) from rfl) <| And.intro (show d39.getD 20 (0, []) = (0, []) from rfl) <| And.intro (show d39.getD 21 (0, []) = (0, []) from rfl) <| And.intro (show d39.getD 22 (0, []) = (0, [28, 29]) from rfl) <| And.intro (show d39.getD 23 (0, []) = (0, []) from rfl) <| And.intro (show d39.getD 24 (0, []) = (0, [7, 30, 31, 32, 33]) from rfl) <| And.intro (show d39.getD 25 (0, []) = (0, []) from rfl) <| And.intro (show d39.getD 26 (0, []) = (0, [34]) from rfl) <| And.intro (show d39.getD 27 (0, []) = (0, []) from rfl) <| (show d39.getD 28 (0, []) = (0, [5, 35]) from rfl)
theorem i39 : finfo Try.prog 39 d39 = some ⟨bodyOf Try.f39, [.tmp 2, .tmp 3], [22, 25]⟩ := finfo_at Try.func39 rfl (by kernel_rfl) (by kernel_rfl)
def e39 : ((List Int) × Int) → AV := fun r => .tuple [.fresh 1 r.1.length (lm (ik .i64) r.1), .v (.int .i64 r.2)]
set_option maxHeartbeats 1000000 in
theorem w39 (cp : CallP) (fu : Nat) (x1 : T_Tensor) (H48_0 : ∀ (a0 : T_Tensor) r, tens_Check fu a0 = some r → cp 48 [.agg (c_T_Tensor a0)] = some (.v (.int .i64 r))) : J (go Try.prog noC cp noI 0 [] d39 fu (fin Try.prog [.tmp 2, .tmp 3] [22, 25]) (bodyOf Try.f39) (initE 0 [.agg (c_T_Tensor x1)]) [] []) (tens_Ints fu x1) e39 := by
  unfold tens_Ints e39
  conv => arg 1; simp (maxSteps := 1000000) (disch := first | assumption | decide | with_unfolding_all rfl | omega | (simp only [LN] <;> omega) | (simp only [RO, OF])) only [bodyOf, Try.f39, RR, RM, LN, TT, d39_at, ↓reduceIte, Nat.reduceEqDiff, Nat.reduceLT, Nat.reduceLeDiff, Nat.reduceAdd, Nat.reduceSub, Nat.reduceMul, Nat.reduceMod, Nat.reduceDiv, Nat.reduceBEq, RH]
  refine J.eq go_seq ?_
  refine J.bind fun x2 h1 => ?_
  have e_h1 := H48_0 _ _ h1
  try simp only [NN, NT, LN] at e_h1
  conv => arg 1; simp (maxSteps := 1000000) (disch := first | assumption | decide | with_unfolding_all rfl | omega | (simp only [LN] <;> omega) | (simp only [RO, OF])) only [RR, RM, LN, TT, d39_at, ↓reduceIte, Nat.reduceEqDiff, Nat.reduceLT, Nat.reduceLeDiff, Nat.reduceAdd, Nat.reduceSub, Nat.reduceMul, Nat.reduceMod, Nat.reduceDiv, Nat.reduceBEq, RH, e_h1]
  refine J.ite (fun h2 => ?_) (fun h2 => ?_)
  · have h2' := decide_eq_true h2
    conv => arg 1; simp (maxSteps := 1000000) (disch := first | assumption | decide | with_unfolding_all rfl | omega | (simp only [LN] <;> omega) | (simp only [RO, OF])) only [RR, RM, LN, TT, d39_at, ↓reduceIte, Nat.reduceEqDiff, Nat.reduceLT, Nat.reduceLeDiff, Nat.reduceAdd, Nat.reduceSub, Nat.reduceMul, Nat.reduceMod, Nat.reduceDiv, Nat.reduceBEq, RH, e_h1, h2']
    refine J.ite (fun h3 => ?_) (fun h3 => ?_)
    · have h3' := decide_eq_true h3
      conv => arg 1; simp (maxSteps := 1000000) (disch := first | assumption | decide | with_unfolding_all rfl | omega | (simp only [LN] <;> omega) | (simp only [RO, OF])) only [RR, RM, LN, TT, d39_at, ↓reduceIte, Nat.reduceEqDiff, Nat.reduceLT, Nat.reduceLeDiff, Nat.reduceAdd, Nat.reduceSub, Nat.reduceMul, Nat.reduceMod, Nat.reduceDiv, Nat.reduceBEq, RH, e_h1, h2', h3']
      refine J.ite (fun h4 => ?_) (fun h4 => ?_)
      · have h4' := decide_eq_true h4
        have h4'' : decide ((x1.fDims.length : Int) ≤ 1) = false := decide_eq_false (by omega)
        refine J.some ?_
        simp (disch := first | assumption | decide | with_unfolding_all rfl | omega | (simp only [LN] <;> omega) | (simp only [RO, OF])) only [RR, RM, LN, TT, d39_at, ↓reduceIte, Nat.reduceEqDiff, Nat.reduceLT, Nat.reduceLeDiff, Nat.reduceAdd, Nat.reduceSub, Nat.reduceMul, Nat.reduceMod, Nat.reduceDiv, Nat.reduceBEq, RH, e_h1, h2', h3', h4'', h4', FF, LN, NN, NT]
      · have h4' := decide_eq_false h4
        have h4'' : decide ((x1.fDims.length : Int) ≤ 1) = true := decide_eq_true (by omega)
        conv => arg 1; simp (maxSteps := 1000000) (disch := first | assumption | decide | with_unfolding_all rfl | omega | (simp only [LN] <;> omega) | (simp only [RO, OF])) only [RR, RM, LN, TT, d39_at, ↓reduceIte, Nat.reduceEqDiff, Nat.reduceLT, Nat.reduceLeDiff, Nat.reduceAdd, Nat.reduceSub, Nat.reduceMul, Nat.reduceMod, Nat.reduceDiv, Nat.reduceBEq, RH, e_h1, h2', h3', h4'', h4']
        refine J.eq ret_seq ?_
        conv => arg 1; simp (maxSteps := 1000000) (disch := first | assumption | decide | with_unfolding_all rfl | omega | (simp only [LN] <;> omega) | (simp only [RO, OF])) only [RR, RM, LN, TT, d39_at, ↓reduceIte, Nat.reduceEqDiff, Nat.reduceLT, Nat.reduceLeDiff, Nat.reduceAdd, Nat.reduceSub, Nat.reduceMul, Nat.reduceMod, Nat.reduceDiv, Nat.reduceBEq, RH, e_h1, h2', h3', h4'', h4']
        refine J.eq go_seq ?_
        conv => arg 1; simp (maxSteps := 1000000) (disch := first | assumption | decide | with_unfolding_all rfl | omega | (simp only [LN] <;> omega) | (simp only [RO, OF])) only [RR, RM, LN, TT, d39_at, ↓reduceIte, Nat.reduceEqDiff, Nat.reduceLT, Nat.reduceLeDiff, Nat.reduceAdd, Nat.reduceSub, Nat.reduceMul, Nat.reduceMod, Nat.reduceDiv, Nat.reduceBEq, RH, e_h1, h2', h3', h4'', h4']
        unfold tens_Ints_W1
        refine J.loop (fun (s : (List Int) × Int) => ([(5, .own (0, 5, 77) 0 s.1.length s.1.length), (24, .arr x1.fI.length (lm (ik .i64) x1.fI)), (25, .v (.int .i64 (x1.fI.length : Int))), (26, .v (.int .i64 s.2))], [((0, 5, 77), .sl true true 1 s.1.length (lm (ik .i64) s.1))])) (fun next s => tens_Ints_L1 fu x1 (fun x4 x5 => next (x4, x5)) s.1 s.2) (s0 := (([] : List Int), 0)) ?_ ?_ ?_
        · first | rfl | (simp only [LN, NN, NT])
        · first | (simp (disch := first | assumption | decide | with_unfolding_all rfl | omega | (simp only [LN] <;> omega) | (simp only [RO, OF])) only [RR, ↓reduceIte, Nat.reduceEqDiff, Nat.reduceLT, Nat.reduceLeDiff, Nat.reduceAdd, Nat.reduceSub, Nat.reduceMul, Nat.reduceMod, Nat.reduceDiv, Nat.reduceBEq, LN, NN, NT]; done) | rfl
        rintro next k1 hn1 ⟨x4, x5⟩
        let nx1 : (List Int) → Int → Option ((List Int) × Int) := (fun x4 x5 => next (x4, x5))
        show J _ (tens_Ints_L1 fu x1 nx1 x4 x5) _
        unfold tens_Ints_L1
        conv => arg 1; simp (maxSteps := 1000000) (disch := first | assumption | decide | with_unfolding_all rfl | omega | (simp only [LN] <;> omega) | (simp only [RO, OF])) only [RR, RM, LN, TT, d39_at, ↓reduceIte, Nat.reduceEqDiff, Nat.reduceLT, Nat.reduceLeDiff, Nat.reduceAdd, Nat.reduceSub, Nat.reduceMul, Nat.reduceMod, Nat.reduceDiv, Nat.reduceBEq, RH, e_h1, h2', h3', h4'', h4']
        refine J.eq go_seq ?_
        conv => arg 1; simp (maxSteps := 1000000) (disch := first | assumption | decide | with_unfolding_all rfl | omega | (simp only [LN] <;> omega) | (simp only [RO, OF])) only [RR, RM, LN, TT, d39_at, ↓reduceIte, Nat.reduceEqDiff, Nat.reduceLT, Nat.reduceLeDiff, Nat.reduceAdd, Nat.reduceSub, Nat.reduceMul, Nat.reduceMod, Nat.reduceDiv, Nat.reduceBEq, RH, e_h1, h2', h3', h4'', h4']
        refine J.ite (fun h5 => ?_) (fun h5 => ?_)
        · have h5' := decide_eq_true h5
          have h5'' : decide ((x1.fI.length : Int) ≤ x5) = false := decide_eq_false (by omega)
          conv => arg 1; simp (maxSteps := 1000000) (disch := first | assumption | decide | with_unfolding_all rfl | omega | (simp only [LN] <;> omega) | (simp only [RO, OF])) only [RR, RM, LN, TT, d39_at, ↓reduceIte, Nat.reduceEqDiff, Nat.reduceLT, Nat.reduceLeDiff, Nat.reduceAdd, Nat.reduceSub, Nat.reduceMul, Nat.reduceMod, Nat.reduceDiv, Nat.reduceBEq, RH, e_h1, h2', h3', h4'', h4', h5'', h5']
          refine J.eq ret_seq ?_
          refine J.eq go_seq ?_
          refine J.at fun x7 h6 h7 h8 => ?_
          refine J.chk fun h9 => ?_
          conv => arg 1; simp (maxSteps := 1000000) (disch := first | assumption | decide | with_unfolding_all rfl | omega | (simp only [LN] <;> omega) | (simp only [RO, OF])) only [RR, RM, LN, TT, d39_at, ↓reduceIte, Nat.reduceEqDiff, Nat.reduceLT, Nat.reduceLeDiff, Nat.reduceAdd, Nat.reduceSub, Nat.reduceMul, Nat.reduceMod, Nat.reduceDiv, Nat.reduceBEq, RH, e_h1, h2', h3', h4'', h4', h5'', h5', lm_ik h8]
          refine J.eq ret_seq ?_
          conv => arg 1; simp (maxSteps := 1000000) (disch := first | assumption | decide | with_unfolding_all rfl | omega | (simp only [LN] <;> omega) | (simp only [RO, OF])) only [RR, RM, LN, TT, d39_at, ↓reduceIte, Nat.reduceEqDiff, Nat.reduceLT, Nat.reduceLeDiff, Nat.reduceAdd, Nat.reduceSub, Nat.reduceMul, Nat.reduceMod, Nat.reduceDiv, Nat.reduceBEq, RH, e_h1, h2', h3', h4'', h4', h5'', h5', lm_ik h8]
          refine J.next (s := (x4 ++ ([x7]), wk .i64 (x5 + 1))) hn1 ?_ ?_
          · first | rfl | (simp only [LN, NN, NT])
          · first | (simp (disch := first | assumption | decide | with_unfolding_all rfl | omega | (simp only [LN] <;> omega) | (simp only [RO, OF])) only [RR, ↓reduceIte, Nat.reduceEqDiff, Nat.reduceLT, Nat.reduceLeDiff, Nat.reduceAdd, Nat.reduceSub, Nat.reduceMul, Nat.reduceMod, Nat.reduceDiv, Nat.reduceBEq, LN, NN, NT]; done) | rfl
        · have h5' := decide_eq_false h5
          have h5'' : decide ((x1.fI.length : Int) ≤ x5) = true := decide_eq_true (by omega)
          conv => arg 1; simp (maxSteps := 1000000) (disch := first | assumption | decide | with_unfolding_all rfl | omega | (simp only [LN] <;> omega) | (simp only [RO, OF])) only [RR, RM, LN, TT, d39_at, ↓reduceIte, Nat.reduceEqDiff, Nat.reduceLT, Nat.reduceLeDiff, Nat.reduceAdd, Nat.reduceSub, Nat.reduceMul, Nat.reduceMod, Nat.reduceDiv, Nat.reduceBEq, RH, e_h1, h2', h3', h4'', h4', h5'', h5']
          refine J.eq ret_seq ?_
          refine J.some ?_
          simp (disch := first | assumption | decide | with_unfolding_all rfl | omega | (simp only [LN] <;> omega) | (simp only [RO, OF])) only [RR, RM, LN, TT, d39_at, ↓reduceIte, Nat.reduceEqDiff, Nat.reduceLT, Nat.reduceLeDiff, Nat.reduceAdd, Nat.reduceSub, Nat.reduceMul, Nat.reduceMod, Nat.reduceDiv, Nat.reduceBEq, RH, e_h1, h2', h3', h4'', h4', h5'', h5', FF, LN, NN, NT]
    · have h3' := decide_eq_false h3
      refine J.some ?_
      simp (disch := first | assumption | decide | with_unfolding_all rfl | omega | (simp only [LN] <;> omega) | (simp only [RO, OF])) only [RR, RM, LN, TT, d39_at, ↓reduceIte, Nat.reduceEqDiff, Nat.reduceLT, Nat.reduceLeDiff, Nat.reduceAdd, Nat.reduceSub, Nat.reduceMul, Nat.reduceMod, Nat.reduceDiv, Nat.reduceBEq, RH, e_h1, h2', h3', FF, LN, NN, NT]
  · have h2' := decide_eq_false h2
    refine J.some ?_
    simp (disch := first | assumption | decide | with_unfolding_all rfl | omega | (simp only [LN] <;> omega) | (simp only [RO, OF])) only [RR, RM, LN, TT, d39_at, ↓reduceIte, Nat.reduceEqDiff, Nat.reduceLT, Nat.reduceLeDiff, Nat.reduceAdd, Nat.reduceSub, Nat.reduceMul, Nat.reduceMod, Nat.reduceDiv, Nat.reduceBEq, RH, e_h1, h2', FF, LN, NN, NT]
noncomputable def t39 (fu : Nat) : CallP := orE 48 (mkC (fun (t : T_Tensor) => ([.agg (c_T_Tensor t)] : List AV)) (fun t => tens_Check fu t) e48) (noP)
theorem t39_ok (fu : Nat) : CpOK Try.prog (t39 fu ) := orE_ok (noP_ok) (mkC_ok (fun t b h => ok48 fu t  b h))
theorem ok39 (fu : Nat) (x1 : T_Tensor) (r) (h : tens_Ints fu x1 = some r) : PureOK Try.prog 39 [.agg (c_T_Tensor x1)] (e39 r) :=
  pure_J mixed (cp := t39 fu ) (t39_ok fu  ) noI_ok i39 (w39 _ fu x1  (fun a0 r h => orE_hit (mkC_at (a := a0) (by intro a b h; first | (exact rfl) | (simp only [INJ, c_inj_iff c_T_Tensor_inj, lm_inj_iff (inj_avf (inj_fm c_T_Tensor_len (by decide) c_T_Tensor_inj)), fm_inj_iff (inj_fm c_T_Tensor_len (by decide) c_T_Tensor_inj)] at h; first | exact h | (simp_all [Prod.ext_iff]) )) h))) h
/-! 68: lattice/tens.word -/
def d68 : List (Nat × List Nat) := [(0, [6]), (0, [1, 8, 9]), (0, [2]), (0, []), (0, []), (0, []), (0, [11]), (0, []), (0, [7, 12, 13, 14, 15, 16, 17, 18, 19]), (0, []), (0, [20]), (0, []), (0, [0, 21])]
def d68_at := And.intro (show d68.getD 0 (0, []) = (0, [6]) from rfl) <| And.intro (show d68.getD 1 (0, []) = (0, [1, 8, 9]) from rfl) <| And.intro (show d68.getD 2 (0, []) = (0, [2]) from rfl) <| And.intro (show d68.getD 3 (0, []) = (0, []) from rfl) <| And.intro (show d68.getD 4 (0, []) = (0, []) from rfl) <| And.intro (show d68.getD 5 (0, []) = (0, []) from rfl) <| And.intro (show d68.getD 6 (0, []) = (0, [11]) from rfl) <| And.intro (show d68.getD 7 (0, []) = (0, []) from rfl) <| And.intro (show d68.getD 8 (0, []) = (0, [7, 12, 13, 14, 15, 16, 17, 18, 19]) from rfl) <| And.intro (show d68.getD 9 (0, []) = (0, []) from rfl) <| And.intro (show d68.getD 10 (0, []) = (0, [20]) from rfl) <| And.intro (show d68.getD 11 (0, []) = (0, []) from rfl) <| (show d68.getD 12 (0, []) = (0, [0, 21]) from rfl)
noncomputable def b68 : Code := bodyOf Try.f68
theorem go_b68 {C : Cfg} {cp : CallP} {ci : CallI} {lvl : Nat} {prot : List Id} {D : List (Nat × List Nat)} {n : Nat} {K : KK} {e : Env} {h : Heap} {fs : List Fr} : go Try.prog C cp ci lvl prot D n K b68 e h fs = go Try.prog C cp ci lvl prot D n K (bodyOf Try.f68) e h fs := rfl
theorem i68 : finfo Try.prog 68 d68 = some ⟨b68, [.tmp 6], [53]⟩ := finfo_at Try.func68 rfl (by kernel_rfl) (by kernel_rfl)
end Go.Av
