/- The walks of the plain functions. Made by a program of mine. Conditions: none. -/
import Derived.Test.YtoobokgbmjbofaaGreatQ3S
import Derived.Test.YtoobokgbmjbofaaGreatQ3A
import Derived.Test.YtoobokgbmjbofaaGreatProg
set_option linter.unusedVariables false
set_option linter.unusedSimpArgs false
set_option linter.defProp false
set_option maxRecDepth 4000
open Go Go.Proofs
namespace Go.Av
theorem mixed : Tryz.prog.follows .mixedOrders = true := by kernel_rfl
def bodyOf (f : Func) : Code := f.body.getD .skip
theorem tv3 : tview Tryz.prog 3 = some (.int .i64) := by kernel_rfl
theorem ts3 : tsize Tryz.prog 3 = 1 := by kernel_rfl
theorem pt3 : ∀ {xs : List AV} {off : Nat}, part Tryz.prog xs 3 off = xs[off]? := part_one (fun _ _ h => by rw [tv3] at h; cases h) (by rw [tv3]; trivial)
theorem st3 : ∀ {h : Heap} {id : Id} {off ext : Nat} {k : IntKind} {z : Int}, stX Tryz.prog 3 h (.ptr id off ext) (.v (.int k z)) = (h.get id).bind (stI h id off ext (.v (.int k z))) := stX_int ts3
theorem tv4 : tview Tryz.prog 4 = some (.bool) := by kernel_rfl
theorem ts4 : tsize Tryz.prog 4 = 1 := by kernel_rfl
theorem pt4 : ∀ {xs : List AV} {off : Nat}, part Tryz.prog xs 4 off = xs[off]? := part_one (fun _ _ h => by rw [tv4] at h; cases h) (by rw [tv4]; trivial)
theorem st4 : ∀ {h : Heap} {id : Id} {off ext : Nat} {k : IntKind} {z : Int}, stX Tryz.prog 4 h (.ptr id off ext) (.v (.int k z)) = (h.get id).bind (stI h id off ext (.v (.int k z))) := stX_int ts4
theorem sb4 : ∀ {h : Heap} {id : Id} {off ext : Nat} {z : Bool}, stX Tryz.prog 4 h (.ptr id off ext) (.v (.bool z)) = (h.get id).bind (stI h id off ext (.v (.bool z))) := stX_bool ts4
theorem tv5 : tview Tryz.prog 5 = some (.int .u8) := by kernel_rfl
theorem ts5 : tsize Tryz.prog 5 = 1 := by kernel_rfl
theorem pt5 : ∀ {xs : List AV} {off : Nat}, part Tryz.prog xs 5 off = xs[off]? := part_one (fun _ _ h => by rw [tv5] at h; cases h) (by rw [tv5]; trivial)
theorem st5 : ∀ {h : Heap} {id : Id} {off ext : Nat} {k : IntKind} {z : Int}, stX Tryz.prog 5 h (.ptr id off ext) (.v (.int k z)) = (h.get id).bind (stI h id off ext (.v (.int k z))) := stX_int ts5
theorem tv9 : tview Tryz.prog 9 = some (.str) := by kernel_rfl
theorem ts9 : tsize Tryz.prog 9 = 1 := by kernel_rfl
theorem pt9 : ∀ {xs : List AV} {off : Nat}, part Tryz.prog xs 9 off = xs[off]? := part_one (fun _ _ h => by rw [tv9] at h; cases h) (by rw [tv9]; trivial)
theorem ix9 : ∀ {s : ByteArray} {i : Int}, aindex Tryz.prog 9 (.v (.string s)) i = aixS s i := ix_str tv9
theorem st9 : ∀ {h : Heap} {id : Id} {off ext : Nat} {k : IntKind} {z : Int}, stX Tryz.prog 9 h (.ptr id off ext) (.v (.int k z)) = (h.get id).bind (stI h id off ext (.v (.int k z))) := stX_int ts9
theorem tv22 : tview Tryz.prog 22 = some (.slice 24 1 4) := by kernel_rfl
theorem ts22 : tsize Tryz.prog 22 = 1 := by kernel_rfl
theorem pt22 : ∀ {xs : List AV} {off : Nat}, part Tryz.prog xs 22 off = xs[off]? := part_one (fun _ _ h => by rw [tv22] at h; cases h) (by rw [tv22]; trivial)
theorem ia22 : ∀ {m : Nat} {xs : List AV} {i : Int} {g : Id → Option Blk}, 0 ≤ i → i < m → aindexAddr Tryz.prog 22 g (.arr m xs) i = some (.ref xs (i.toNat * 1)) := ia_any tv22
theorem io22 : ∀ {id : Id} {off m ext : Nat} {i : Int} {g : Id → Option Blk}, aindexAddr Tryz.prog 22 g (.own id off m ext) i = (g id).bind (iaB id off m ext 1 i) := ia_own tv22
theorem le22 : ∀ {x : AV}, abuiltin Tryz.prog .len #[22] [x] = (alen x).bind fun n => some (.v (.int .i64 n)) := len_at tv22
theorem st22 : ∀ {h : Heap} {id : Id} {off ext : Nat} {k : IntKind} {z : Int}, stX Tryz.prog 22 h (.ptr id off ext) (.v (.int k z)) = (h.get id).bind (stI h id off ext (.v (.int k z))) := stX_int ts22
theorem sa22 : ∀ {h : Heap} {id : Id} {off ext m : Nat} {xs : List AV}, stX Tryz.prog 22 h (.ptr id off ext) (.arr m xs) = (h.get id).bind (stI h id off ext (.arr m xs)) := stX_arr ts22
theorem so22 : ∀ {h : Heap} {id j : Id} {off ext o m x : Nat}, stX Tryz.prog 22 h (.ptr id off ext) (.own j o m x) = (h.get id).bind (stO h id off ext (.own j o m x)) := stX_own ts22
theorem tv24 : tview Tryz.prog 24 = some (.int .u32) := by kernel_rfl
theorem ts24 : tsize Tryz.prog 24 = 1 := by kernel_rfl
theorem pt24 : ∀ {xs : List AV} {off : Nat}, part Tryz.prog xs 24 off = xs[off]? := part_one (fun _ _ h => by rw [tv24] at h; cases h) (by rw [tv24]; trivial)
theorem st24 : ∀ {h : Heap} {id : Id} {off ext : Nat} {k : IntKind} {z : Int}, stX Tryz.prog 24 h (.ptr id off ext) (.v (.int k z)) = (h.get id).bind (stI h id off ext (.v (.int k z))) := stX_int ts24
theorem tv89 : tview Tryz.prog 89 = some (.int .u64) := by kernel_rfl
theorem ts89 : tsize Tryz.prog 89 = 1 := by kernel_rfl
theorem pt89 : ∀ {xs : List AV} {off : Nat}, part Tryz.prog xs 89 off = xs[off]? := part_one (fun _ _ h => by rw [tv89] at h; cases h) (by rw [tv89]; trivial)
theorem st89 : ∀ {h : Heap} {id : Id} {off ext : Nat} {k : IntKind} {z : Int}, stX Tryz.prog 89 h (.ptr id off ext) (.v (.int k z)) = (h.get id).bind (stI h id off ext (.v (.int k z))) := stX_int ts89
theorem tv91 : tview Tryz.prog 91 = some (.struct) := by kernel_rfl
theorem ts91 : tsize Tryz.prog 91 = 5 := by kernel_rfl
theorem pt91 : ∀ {xs : List AV} {off : Nat}, part Tryz.prog xs 91 off = if off + 5 ≤ xs.length then some (.agg ((xs.drop off).take 5)) else none := part_struct tv91 ts91
theorem sg91 : ∀ {h : Heap} {id : Id} {off : Nat} {ys : List AV}, ys.length = 5 → stX Tryz.prog 91 h (.ptr id off 0) (.agg ys) = (h.get id).bind (stH Tryz.prog 91 h id off ys) := stX_aggH ts91 (by decide)
theorem tv98 : tview Tryz.prog 98 = some (.slice 24 1 4) := by kernel_rfl
theorem ts98 : tsize Tryz.prog 98 = 1 := by kernel_rfl
theorem pt98 : ∀ {xs : List AV} {off : Nat}, part Tryz.prog xs 98 off = xs[off]? := part_one (fun _ _ h => by rw [tv98] at h; cases h) (by rw [tv98]; trivial)
theorem ia98 : ∀ {m : Nat} {xs : List AV} {i : Int} {g : Id → Option Blk}, 0 ≤ i → i < m → aindexAddr Tryz.prog 98 g (.arr m xs) i = some (.ref xs (i.toNat * 1)) := ia_any tv98
theorem io98 : ∀ {id : Id} {off m ext : Nat} {i : Int} {g : Id → Option Blk}, aindexAddr Tryz.prog 98 g (.own id off m ext) i = (g id).bind (iaB id off m ext 1 i) := ia_own tv98
theorem le98 : ∀ {x : AV}, abuiltin Tryz.prog .len #[98] [x] = (alen x).bind fun n => some (.v (.int .i64 n)) := len_at tv98
theorem tz24 : tzero Tryz.prog 24 = some [.v (.int .u32 0)] := by kernel_rfl
theorem mk98 : ∀ {a b : Int} {k k' : IntKind}, 0 ≤ a → a ≤ b → b ≤ 140737488355328 → b * 4 ≤ 140737488355328 → mkX Tryz.prog 98 (.v (.int k a)) (.v (.int k' b)) = some (.fresh 1 a.toNat (lm (ik .u32) (List.replicate a.toNat 0))) := mk_ik tv98 tz24
theorem ap98 : ∀ {lvl d : Nat} {h : Heap} {x y : AV}, appX Tryz.prog lvl d 98 98 h x y = (newsOf h.get y).bind (appN lvl d 1 4 h x (inner h.get y)) := appX_at tv98 tz24 rfl (by decide)
theorem bs98 : ∀ {len : Nat} {parts : List (Nat × AV)}, len * 1 ≤ 16777216 → abuildSlice Tryz.prog 98 len parts = (afill (elP 1) (List.replicate len [.v (.int .u32 0)]).flatten parts).bind (bslE 1 len) := fun h => bsl_at tv98 tz24 h rfl (by decide)
theorem ao98 : ∀ {off m ext : Nat} {id : Id} {lo hi : Option AV} {g : Id → Option Blk}, aslice Tryz.prog 98 g (.own id off m ext) lo hi = (g id).bind fun b => (sliceLim lo 0).bind fun l => (sliceLim hi m).bind fun r => slO id off ext 1 l r b := asl_own tv98
theorem as98 : ∀ {m : Nat} {xs : List AV} {lo hi : Option AV} {g : Id → Option Blk}, aslice Tryz.prog 98 g (.arr m xs) lo hi = (sliceLim lo 0).bind fun l => (sliceLim hi m).bind fun r => slA 1 m xs l r := asl_arr tv98
theorem st98 : ∀ {h : Heap} {id : Id} {off ext : Nat} {k : IntKind} {z : Int}, stX Tryz.prog 98 h (.ptr id off ext) (.v (.int k z)) = (h.get id).bind (stI h id off ext (.v (.int k z))) := stX_int ts98
theorem sa98 : ∀ {h : Heap} {id : Id} {off ext m : Nat} {xs : List AV}, stX Tryz.prog 98 h (.ptr id off ext) (.arr m xs) = (h.get id).bind (stI h id off ext (.arr m xs)) := stX_arr ts98
theorem so98 : ∀ {h : Heap} {id j : Id} {off ext o m x : Nat}, stX Tryz.prog 98 h (.ptr id off ext) (.own j o m x) = (h.get id).bind (stO h id off ext (.own j o m x)) := stX_own ts98
theorem fo91_0 : fieldOf Tryz.prog 91 0 = some (0, 4) := by kernel_rfl
theorem fp91_0 : ∀ {g : Id → Option Blk} {id : Id} {off ext : Nat}, afield Tryz.prog 91 g (.ptr id off ext) 0 = (g id).bind (fiB id off ext 0) := af_ptr fo91_0 (by rw [ts4]; decide)
theorem fr91_0 : ∀ {g : Id → Option Blk} {xs : List AV} {off : Nat}, afield Tryz.prog 91 g (.ref xs off) 0 = some (.ref xs (off + 0)) := af_ref fo91_0 (by rw [ts4]; decide)
theorem fo91_1 : fieldOf Tryz.prog 91 1 = some (1, 4) := by kernel_rfl
theorem fp91_1 : ∀ {g : Id → Option Blk} {id : Id} {off ext : Nat}, afield Tryz.prog 91 g (.ptr id off ext) 1 = (g id).bind (fiB id off ext 1) := af_ptr fo91_1 (by rw [ts4]; decide)
theorem fr91_1 : ∀ {g : Id → Option Blk} {xs : List AV} {off : Nat}, afield Tryz.prog 91 g (.ref xs off) 1 = some (.ref xs (off + 1)) := af_ref fo91_1 (by rw [ts4]; decide)
theorem fo91_2 : fieldOf Tryz.prog 91 2 = some (2, 4) := by kernel_rfl
theorem fp91_2 : ∀ {g : Id → Option Blk} {id : Id} {off ext : Nat}, afield Tryz.prog 91 g (.ptr id off ext) 2 = (g id).bind (fiB id off ext 2) := af_ptr fo91_2 (by rw [ts4]; decide)
theorem fr91_2 : ∀ {g : Id → Option Blk} {xs : List AV} {off : Nat}, afield Tryz.prog 91 g (.ref xs off) 2 = some (.ref xs (off + 2)) := af_ref fo91_2 (by rw [ts4]; decide)
theorem fo91_3 : fieldOf Tryz.prog 91 3 = some (3, 3) := by kernel_rfl
theorem fp91_3 : ∀ {g : Id → Option Blk} {id : Id} {off ext : Nat}, afield Tryz.prog 91 g (.ptr id off ext) 3 = (g id).bind (fiB id off ext 3) := af_ptr fo91_3 (by rw [ts3]; decide)
theorem fr91_3 : ∀ {g : Id → Option Blk} {xs : List AV} {off : Nat}, afield Tryz.prog 91 g (.ref xs off) 3 = some (.ref xs (off + 3)) := af_ref fo91_3 (by rw [ts3]; decide)
theorem fo91_4 : fieldOf Tryz.prog 91 4 = some (4, 89) := by kernel_rfl
theorem fp91_4 : ∀ {g : Id → Option Blk} {id : Id} {off ext : Nat}, afield Tryz.prog 91 g (.ptr id off ext) 4 = (g id).bind (fiB id off ext 4) := af_ptr fo91_4 (by rw [ts89]; decide)
theorem fr91_4 : ∀ {g : Id → Option Blk} {xs : List AV} {off : Nat}, afield Tryz.prog 91 g (.ref xs off) 4 = some (.ref xs (off + 4)) := af_ref fo91_4 (by rw [ts89]; decide)
theorem tz91 : tzero Tryz.prog 91 = some [.v (.bool false), .v (.bool false), .v (.bool false), .v (.int .i64 0), .v (.int .u64 0)] := by kernel_rfl
theorem bl91 : ∀ {parts : List (Nat × AV)}, abuild Tryz.prog 91 parts = (afill (flP Tryz.prog 91) [.v (.bool false), .v (.bool false), .v (.bool false), .v (.int .i64 0), .v (.int .u64 0)] parts).bind fun xs => some (.agg xs) := bld_struct tz91 tv91
theorem fl91_0 : flP Tryz.prog 91 0 = some (0, 1) := by unfold flP; rw [fo91_0]; rfl
theorem fl91_1 : flP Tryz.prog 91 1 = some (1, 1) := by unfold flP; rw [fo91_1]; rfl
theorem fl91_2 : flP Tryz.prog 91 2 = some (2, 1) := by unfold flP; rw [fo91_2]; rfl
theorem fl91_3 : flP Tryz.prog 91 3 = some (3, 1) := by unfold flP; rw [fo91_3]; rfl
theorem fl91_4 : flP Tryz.prog 91 4 = some (4, 1) := by unfold flP; rw [fo91_4]; rfl
theorem al91 {C : Cfg} {cp : CallP} {ci : CallI} {lvl : Nat} {e : Env} {h : Heap} {d : Option Tmp} : aop Tryz.prog C cp ci lvl e h d (.alloc 91) = qo lvl (d.getD 0) h (some (.newbx [.v (.bool false), .v (.bool false), .v (.bool false), .v (.int .i64 0), .v (.int .u64 0)])) := aop_alloc tz91
theorem aq91 {C : Cfg} {cp : CallP} {g : Id → Option Blk} {e : Nat → Option AV} : aopQ Tryz.prog C cp e g (.alloc 91) = some (.newbx [.v (.bool false), .v (.bool false), .v (.bool false), .v (.int .i64 0), .v (.int .u64 0)]) := aq_alloc tz91
theorem ab4 : ∀ {op : BinOp} {a b : Bool}, abin Tryz.prog op 4 (.v (.bool a)) (.v (.bool b)) = abinB op a b := abin_bool tv4
theorem cv3_89 : ∀ {k' : IntKind} {z : Int}, cvX Tryz.prog 3 89 (.v (.int k' z)) = some (.v (.int .u64 (wk .u64 z))) := cvX_at tv3 tv89
theorem cv5_3 : ∀ {k' : IntKind} {z : Int}, cvX Tryz.prog 5 3 (.v (.int k' z)) = some (.v (.int .i64 (wk .i64 z))) := cvX_at tv5 tv3
theorem cv24_3 : ∀ {k' : IntKind} {z : Int}, cvX Tryz.prog 24 3 (.v (.int k' z)) = some (.v (.int .i64 (wk .i64 z))) := cvX_at tv24 tv3
theorem cv24_89 : ∀ {k' : IntKind} {z : Int}, cvX Tryz.prog 24 89 (.v (.int k' z)) = some (.v (.int .u64 (wk .u64 z))) := cvX_at tv24 tv89
theorem cv89_5 : ∀ {k' : IntKind} {z : Int}, cvX Tryz.prog 89 5 (.v (.int k' z)) = some (.v (.int .u8 (wk .u8 z))) := cvX_at tv89 tv5
theorem cv89_24 : ∀ {k' : IntKind} {z : Int}, cvX Tryz.prog 89 24 (.v (.int k' z)) = some (.v (.int .u32 (wk .u32 z))) := cvX_at tv89 tv24
theorem sc91 : sliceCells Tryz.prog 4 91 = [0, 0, 0, 0, 0] := by kernel_rfl
theorem ty91 : ∀ {xs : List AV}, typed Tryz.prog 91 (.agg xs) = .agg (nilNew xs [0, 0, 0, 0, 0]) := ty_agg sc91
theorem sc98 : sliceCells Tryz.prog 4 98 = [2] := by kernel_rfl
theorem ty98 : typed Tryz.prog 98 (.v (.slice none 0 0)) = .fresh 1 0 [] := ty_nil sc98
theorem c_T_soft_number_at {x : T_soft_number} : c_T_soft_number x = [.v (.bool x.fneg), .v (.bool x.fnan), .v (.bool x.finf), .v (.int .i64 x.fexp), .v (.int .u64 x.fsig)] := rfl
theorem c_T_soft_number_inj : Inj c_T_soft_number := by
  intro a b h
  obtain ⟨a0, a1, a2, a3, a4⟩ := a
  obtain ⟨b0, b1, b2, b3, b4⟩ := b
  simp only [c_T_soft_number_at, INJ] at h
  simp_all
def TT0 := And.intro @ts3 <| And.intro @pt3 <| And.intro @st3 <| And.intro @ts4 <| And.intro @pt4 <| And.intro @sb4 <| And.intro @ts5 <| And.intro @pt5 <| And.intro @st5 <| And.intro @ts9 <| And.intro @pt9 <| And.intro @ix9 <| And.intro @ts22 <| And.intro @pt22 <| And.intro @ia22 <| And.intro @io22 <| And.intro @le22 <| And.intro @sa22 <| And.intro @so22 <| And.intro @ts24 <| And.intro @pt24 <| And.intro @st24 <| And.intro @ts89 <| And.intro @pt89 <| And.intro @st89 <| And.intro @ts91 <| And.intro @pt91 <| And.intro @sg91 <| And.intro @ts98 <| And.intro @pt98 <| And.intro @ia98 <| And.intro @io98 <| And.intro @le98 <| And.intro @mk98 <| And.intro @ap98 <| And.intro @bs98 <| And.intro @ao98 <| And.intro @as98 <| And.intro @sa98 <| @so98
def TT1 := And.intro @fo91_0 <| And.intro @fp91_0 <| And.intro @fr91_0 <| And.intro @fo91_1 <| And.intro @fp91_1 <| And.intro @fr91_1 <| And.intro @fo91_2 <| And.intro @fp91_2 <| And.intro @fr91_2 <| And.intro @fo91_3 <| And.intro @fp91_3 <| And.intro @fr91_3 <| And.intro @fo91_4 <| And.intro @fp91_4 <| And.intro @fr91_4 <| And.intro @bl91 <| And.intro @fl91_0 <| And.intro @fl91_1 <| And.intro @fl91_2 <| And.intro @fl91_3 <| And.intro @fl91_4 <| And.intro @al91 <| And.intro @aq91 <| And.intro @ab4 <| And.intro @cv3_89 <| And.intro @cv5_3 <| And.intro @cv24_3 <| And.intro @cv24_89 <| And.intro @cv89_5 <| And.intro @cv89_24 <| And.intro @ty91 <| And.intro @ty98 <| And.intro @c_T_soft_number_at <| (fun l => @one_fm _ c_T_soft_number l c_T_soft_number_one)
def TT := And.intro @TT0 <| @TT1
def OF := (fun l => @one_fm _ c_T_soft_number l c_T_soft_number_one)
def NT := @c_T_soft_number_at
def IJ := And.intro (@c_inj_iff _ _ c_T_soft_number_inj) <| And.intro (@lm_inj_iff _ _ (inj_avf (inj_fm c_T_soft_number_len (by decide) c_T_soft_number_inj))) <| (@fm_inj_iff _ _ (inj_fm c_T_soft_number_len (by decide) c_T_soft_number_inj))
/-! 63: lattice/soft.open -/
def d63 : List (Nat × List Nat) := [(0, []), (0, [3, 4]), (0, [6, 7, 8, 9]), (0, []), (0, [10, 11, 12]), (0, []), (0, [0, 13, 14, 15, 16]), (0, []), (0, [17, 18, 19, 20, 21, 22]), (0, []), (0, [24, 25]), (0, []), (0, [26, 27, 28]), (0, []), (0, [29, 30, 31]), (0, []), (0, [33, 34]), (0, []), (0, [35, 36, 37]), (0, []), (0, [5, 38])]
def d63_at := And.intro (show d63.getD 0 (0, []) = (0, []) from rfl) <| And.intro (show d63.getD 1 (0, []) = (0, [3, 4]) from rfl) <| And.intro (show d63.getD 2 (0, []) = (0, [6, 7, 8, 9]) from rfl) <| And.intro (show d63.getD 3 (0, []) = (0, []) from rfl) <| And.intro (show d63.getD 4 (0, []) = (0, [10, 11, 12]) from rfl) <| And.intro (show d63.getD 5 (0, []) = (0, []) from rfl) <| And.intro (show d63.getD 6 (0, []) = (0, [0, 13, 14, 15, 16]) from rfl) <| And.intro (show d63.getD 7 (0, []) = (0, []) from rfl) <| And.intro (show d63.getD 8 (0, []) = (0, [17, 18, 19, 20, 21, 22]) from rfl) <| And.intro (show d63.getD 9 (0, []) = (0, []) from rfl) <| And.intro (show d63.getD 10 (0, []) = (0, [24, 25]) from rfl) <| And.intro (show d63.getD 11 (0, []) = (0, []) from rfl) <| And.intro (show d63.getD 12 (0, []) = (0, [26, 27, 28]) from rfl) <| And.intro (show d63.getD 13 (0, []) = (0, []) from rfl) <| And.intro (show d63.getD 14 (0, []) = (0, [29, 30, 31]) from rfl) <| And.intro (show d63.getD 15 (0, []) = (0, []) from rfl) <| And.intro (show d63.getD 16 (0, []) = (0, [33, 34]) from rfl) <| And.intro (show d63.getD 17 (0, []) = (0, []) from rfl) <| And.intro (show d63.getD 18 (0, []) = (0, [35, 36, 37]) from rfl) <| And.intro (show d63.getD 19 (0, []) = (0, []) from rfl) <| (show d63.getD 20 (0, []) = (0, [5, 38]) from rfl)
theorem i63 : finfo Tryz.prog 63 d63 = some ⟨bodyOf Tryz.f63, [.cell 2 91], [91]⟩ := finfo_at Tryz.func63 rfl (by kernel_rfl) (by kernel_rfl)
def e63 : T_soft_number → AV := fun r => .agg [.v (.bool r.fneg), .v (.bool r.fnan), .v (.bool r.finf), .v (.int .i64 r.fexp), .v (.int .u64 r.fsig)]
set_option maxHeartbeats 20000000 in
theorem w63 (cp : CallP) (fu : Nat) (x1 : Int) : J (go Tryz.prog noC cp noI 0 [] d63 fu (fin Tryz.prog [.cell 2 91] [91]) (bodyOf Tryz.f63) (initE 0 [.v (.int .u32 x1)]) [] []) (soft_open fu x1) e63 := by
  unfold soft_open e63
  conv => arg 1; simp (maxSteps := 1000000) (disch := first | assumption | decide | with_unfolding_all rfl | omega | (simp only [LN] <;> omega) | (simp only [RO, OF])) only [bodyOf, Tryz.f63, RR, RM, LN, TT, d63_at, ↓reduceIte, Nat.reduceEqDiff, Nat.reduceLT, Nat.reduceLeDiff, Nat.reduceAdd, Nat.reduceSub, Nat.reduceMul, Nat.reduceMod, Nat.reduceDiv, Nat.reduceBEq, RH]
  refine J.eq go_seq ?_
  conv => arg 1; simp (maxSteps := 1000000) (disch := first | assumption | decide | with_unfolding_all rfl | omega | (simp only [LN] <;> omega) | (simp only [RO, OF])) only [RR, RM, LN, TT, d63_at, ↓reduceIte, Nat.reduceEqDiff, Nat.reduceLT, Nat.reduceLeDiff, Nat.reduceAdd, Nat.reduceSub, Nat.reduceMul, Nat.reduceMod, Nat.reduceDiv, Nat.reduceBEq, RH]
  refine J.ite (fun h1 => ?_) (fun h1 => ?_)
  · have h1' := decide_eq_true h1
    conv => arg 1; simp (maxSteps := 1000000) (disch := first | assumption | decide | with_unfolding_all rfl | omega | (simp only [LN] <;> omega) | (simp only [RO, OF])) only [RR, RM, LN, TT, d63_at, ↓reduceIte, Nat.reduceEqDiff, Nat.reduceLT, Nat.reduceLeDiff, Nat.reduceAdd, Nat.reduceSub, Nat.reduceMul, Nat.reduceMod, Nat.reduceDiv, Nat.reduceBEq, RH, h1']
    refine J.eq ret_seq ?_
    refine J.some ?_
    simp (maxSteps := 20000000) (disch := first | assumption | decide | with_unfolding_all rfl | omega | (simp only [LN] <;> omega) | (simp only [RO, OF])) only [RR, RM, LN, TT, d63_at, ↓reduceIte, Nat.reduceEqDiff, Nat.reduceLT, Nat.reduceLeDiff, Nat.reduceAdd, Nat.reduceSub, Nat.reduceMul, Nat.reduceMod, Nat.reduceDiv, Nat.reduceBEq, RH, h1', FF, LN, NN, NT]
  · have h1' := decide_eq_false h1
    conv => arg 1; simp (maxSteps := 1000000) (disch := first | assumption | decide | with_unfolding_all rfl | omega | (simp only [LN] <;> omega) | (simp only [RO, OF])) only [RR, RM, LN, TT, d63_at, ↓reduceIte, Nat.reduceEqDiff, Nat.reduceLT, Nat.reduceLeDiff, Nat.reduceAdd, Nat.reduceSub, Nat.reduceMul, Nat.reduceMod, Nat.reduceDiv, Nat.reduceBEq, RH, h1']
    refine J.ite (fun h2 => ?_) (fun h2 => ?_)
    · have h2' := decide_eq_true h2
      conv => arg 1; simp (maxSteps := 1000000) (disch := first | assumption | decide | with_unfolding_all rfl | omega | (simp only [LN] <;> omega) | (simp only [RO, OF])) only [RR, RM, LN, TT, d63_at, ↓reduceIte, Nat.reduceEqDiff, Nat.reduceLT, Nat.reduceLeDiff, Nat.reduceAdd, Nat.reduceSub, Nat.reduceMul, Nat.reduceMod, Nat.reduceDiv, Nat.reduceBEq, RH, h1', h2']
      refine J.eq ret_seq ?_
      refine J.some ?_
      simp (maxSteps := 20000000) (disch := first | assumption | decide | with_unfolding_all rfl | omega | (simp only [LN] <;> omega) | (simp only [RO, OF])) only [RR, RM, LN, TT, d63_at, ↓reduceIte, Nat.reduceEqDiff, Nat.reduceLT, Nat.reduceLeDiff, Nat.reduceAdd, Nat.reduceSub, Nat.reduceMul, Nat.reduceMod, Nat.reduceDiv, Nat.reduceBEq, RH, h1', h2', FF, LN, NN, NT]
    · have h2' := decide_eq_false h2
      conv => arg 1; simp (maxSteps := 1000000) (disch := first | assumption | decide | with_unfolding_all rfl | omega | (simp only [LN] <;> omega) | (simp only [RO, OF])) only [RR, RM, LN, TT, d63_at, ↓reduceIte, Nat.reduceEqDiff, Nat.reduceLT, Nat.reduceLeDiff, Nat.reduceAdd, Nat.reduceSub, Nat.reduceMul, Nat.reduceMod, Nat.reduceDiv, Nat.reduceBEq, RH, h1', h2']
      refine J.eq ret_seq ?_
      refine J.some ?_
      simp (maxSteps := 20000000) (disch := first | assumption | decide | with_unfolding_all rfl | omega | (simp only [LN] <;> omega) | (simp only [RO, OF])) only [RR, RM, LN, TT, d63_at, ↓reduceIte, Nat.reduceEqDiff, Nat.reduceLT, Nat.reduceLeDiff, Nat.reduceAdd, Nat.reduceSub, Nat.reduceMul, Nat.reduceMod, Nat.reduceDiv, Nat.reduceBEq, RH, h1', h2', FF, LN, NN, NT]
noncomputable def t63 (fu : Nat) : CallP := noP
theorem t63_ok (fu : Nat) : CpOK Tryz.prog (t63 fu ) := noP_ok
theorem ok63 (fu : Nat) (x1 : Int) (r) (h : soft_open fu x1 = some r) : PureOK Tryz.prog 63 [.v (.int .u32 x1)] (e63 r) :=
  pure_J mixed (cp := t63 fu ) (t63_ok fu  ) noI_ok i63 (w63 _ fu x1  ) h
/-! 66: lattice/soft.sign -/
def d66 : List (Nat × List Nat) := [(0, [2]), (0, []), (0, [0]), (0, []), (0, []), (0, []), (0, [])]
def d66_at := And.intro (show d66.getD 0 (0, []) = (0, [2]) from rfl) <| And.intro (show d66.getD 1 (0, []) = (0, []) from rfl) <| And.intro (show d66.getD 2 (0, []) = (0, [0]) from rfl) <| And.intro (show d66.getD 3 (0, []) = (0, []) from rfl) <| And.intro (show d66.getD 4 (0, []) = (0, []) from rfl) <| And.intro (show d66.getD 5 (0, []) = (0, []) from rfl) <| (show d66.getD 6 (0, []) = (0, []) from rfl)
theorem i66 : finfo Tryz.prog 66 d66 = some ⟨bodyOf Tryz.f66, [.tmp 2], [24]⟩ := finfo_at Tryz.func66 rfl (by kernel_rfl) (by kernel_rfl)
def e66 : Int → AV := fun r => .v (.int .u32 r)
set_option maxHeartbeats 20000000 in
theorem w66 (cp : CallP) (fu : Nat) (x1 : Bool) : J (go Tryz.prog noC cp noI 0 [] d66 fu (fin Tryz.prog [.tmp 2] [24]) (bodyOf Tryz.f66) (initE 0 [.v (.bool x1)]) [] []) (soft_sign fu x1) e66 := by
  unfold soft_sign e66
  conv => arg 1; simp (maxSteps := 1000000) (disch := first | assumption | decide | with_unfolding_all rfl | omega | (simp only [LN] <;> omega) | (simp only [RO, OF])) only [bodyOf, Tryz.f66, RR, RM, LN, TT, d66_at, ↓reduceIte, Nat.reduceEqDiff, Nat.reduceLT, Nat.reduceLeDiff, Nat.reduceAdd, Nat.reduceSub, Nat.reduceMul, Nat.reduceMod, Nat.reduceDiv, Nat.reduceBEq, RH]
  refine J.eq go_seq ?_
  conv => arg 1; simp (maxSteps := 1000000) (disch := first | assumption | decide | with_unfolding_all rfl | omega | (simp only [LN] <;> omega) | (simp only [RO, OF])) only [RR, RM, LN, TT, d66_at, ↓reduceIte, Nat.reduceEqDiff, Nat.reduceLT, Nat.reduceLeDiff, Nat.reduceAdd, Nat.reduceSub, Nat.reduceMul, Nat.reduceMod, Nat.reduceDiv, Nat.reduceBEq, RH]
  refine J.ite (fun h1 => ?_) (fun h1 => ?_)
  · have h1' : x1 = true := h1
    refine J.some ?_
    simp (maxSteps := 20000000) (disch := first | assumption | decide | with_unfolding_all rfl | omega | (simp only [LN] <;> omega) | (simp only [RO, OF])) only [RR, RM, LN, TT, d66_at, ↓reduceIte, Nat.reduceEqDiff, Nat.reduceLT, Nat.reduceLeDiff, Nat.reduceAdd, Nat.reduceSub, Nat.reduceMul, Nat.reduceMod, Nat.reduceDiv, Nat.reduceBEq, RH, h1', FF, LN, NN, NT]
  · have h1' : x1 = false := Bool.eq_false_iff.2 h1
    conv => arg 1; simp (maxSteps := 1000000) (disch := first | assumption | decide | with_unfolding_all rfl | omega | (simp only [LN] <;> omega) | (simp only [RO, OF])) only [RR, RM, LN, TT, d66_at, ↓reduceIte, Nat.reduceEqDiff, Nat.reduceLT, Nat.reduceLeDiff, Nat.reduceAdd, Nat.reduceSub, Nat.reduceMul, Nat.reduceMod, Nat.reduceDiv, Nat.reduceBEq, RH, h1']
    refine J.eq ret_seq ?_
    refine J.some ?_
    simp (maxSteps := 20000000) (disch := first | assumption | decide | with_unfolding_all rfl | omega | (simp only [LN] <;> omega) | (simp only [RO, OF])) only [RR, RM, LN, TT, d66_at, ↓reduceIte, Nat.reduceEqDiff, Nat.reduceLT, Nat.reduceLeDiff, Nat.reduceAdd, Nat.reduceSub, Nat.reduceMul, Nat.reduceMod, Nat.reduceDiv, Nat.reduceBEq, RH, h1', FF, LN, NN, NT]
noncomputable def t66 (fu : Nat) : CallP := noP
theorem t66_ok (fu : Nat) : CpOK Tryz.prog (t66 fu ) := noP_ok
theorem ok66 (fu : Nat) (x1 : Bool) (r) (h : soft_sign fu x1 = some r) : PureOK Tryz.prog 66 [.v (.bool x1)] (e66 r) :=
  pure_J mixed (cp := t66 fu ) (t66_ok fu  ) noI_ok i66 (w66 _ fu x1  ) h
/-! 127: math/bits.Len64 -/
def d127 : List (Nat × List Nat) := [(0, []), (0, []), (0, [3]), (0, []), (0, [5, 6]), (0, []), (0, []), (0, []), (0, [7]), (0, []), (0, [9, 10]), (0, []), (0, [11, 12]), (0, []), (0, [13]), (0, []), (0, [15, 16]), (0, []), (0, [17, 18]), (0, []), (0, [0, 19, 20, 21, 22, 23, 24])]
def d127_at := And.intro (show d127.getD 0 (0, []) = (0, []) from rfl) <| And.intro (show d127.getD 1 (0, []) = (0, []) from rfl) <| And.intro (show d127.getD 2 (0, []) = (0, [3]) from rfl) <| And.intro (show d127.getD 3 (0, []) = (0, []) from rfl) <| And.intro (show d127.getD 4 (0, []) = (0, [5, 6]) from rfl) <| And.intro (show d127.getD 5 (0, []) = (0, []) from rfl) <| And.intro (show d127.getD 6 (0, []) = (0, []) from rfl) <| And.intro (show d127.getD 7 (0, []) = (0, []) from rfl) <| And.intro (show d127.getD 8 (0, []) = (0, [7]) from rfl) <| And.intro (show d127.getD 9 (0, []) = (0, []) from rfl) <| And.intro (show d127.getD 10 (0, []) = (0, [9, 10]) from rfl) <| And.intro (show d127.getD 11 (0, []) = (0, []) from rfl) <| And.intro (show d127.getD 12 (0, []) = (0, [11, 12]) from rfl) <| And.intro (show d127.getD 13 (0, []) = (0, []) from rfl) <| And.intro (show d127.getD 14 (0, []) = (0, [13]) from rfl) <| And.intro (show d127.getD 15 (0, []) = (0, []) from rfl) <| And.intro (show d127.getD 16 (0, []) = (0, [15, 16]) from rfl) <| And.intro (show d127.getD 17 (0, []) = (0, []) from rfl) <| And.intro (show d127.getD 18 (0, []) = (0, [17, 18]) from rfl) <| And.intro (show d127.getD 19 (0, []) = (0, []) from rfl) <| (show d127.getD 20 (0, []) = (0, [0, 19, 20, 21, 22, 23, 24]) from rfl)
theorem i127 : finfo Tryz.prog 127 d127 = some ⟨bodyOf Tryz.f127, [.tmp 2], [3]⟩ := finfo_at Tryz.func127 rfl (by kernel_rfl) (by kernel_rfl)
def e127 : Int → AV := fun r => .v (.int .i64 r)
set_option maxHeartbeats 20000000 in
theorem w127 (cp : CallP) (fu : Nat) (x1 : Int) : J (go Tryz.prog noC cp noI 0 [] d127 fu (fin Tryz.prog [.tmp 2] [3]) (bodyOf Tryz.f127) (initE 0 [.v (.int .u64 x1)]) [] []) (math_bits_Len64 fu x1) e127 := by
  unfold math_bits_Len64 e127
  conv => arg 1; simp (maxSteps := 1000000) (disch := first | assumption | decide | with_unfolding_all rfl | omega | (simp only [LN] <;> omega) | (simp only [RO, OF])) only [bodyOf, Tryz.f127, RR, RM, LN, TT, d127_at, ↓reduceIte, Nat.reduceEqDiff, Nat.reduceLT, Nat.reduceLeDiff, Nat.reduceAdd, Nat.reduceSub, Nat.reduceMul, Nat.reduceMod, Nat.reduceDiv, Nat.reduceBEq, RH]
  refine J.joinS (fun (t : Int × Int) => ([(0, .v (.int .u64 t.1)), (2, .v (.int .i64 t.2))], [])) (fun t => math_bits_Len64_k1 fu t.1 t.2) ?_ (fun hj1 => ?_)
  · rintro ⟨x2, x3⟩
    show J _ (math_bits_Len64_k1 fu x2 x3) _
    unfold math_bits_Len64_k1
    refine J.joinS (fun (t : Int × Int) => ([(0, .v (.int .u64 t.1)), (2, .v (.int .i64 t.2))], [])) (fun t => math_bits_Len64_k2 fu t.1 t.2) ?_ (fun hj2 => ?_)
    · rintro ⟨x4, x5⟩
      show J _ (math_bits_Len64_k2 fu x4 x5) _
      unfold math_bits_Len64_k2
      refine J.eq go_seq ?_
      conv => arg 1; simp (maxSteps := 1000000) (disch := first | assumption | decide | with_unfolding_all rfl | omega | (simp only [LN] <;> omega) | (simp only [RO, OF])) only [RR, RM, LN, TT, d127_at, ↓reduceIte, Nat.reduceEqDiff, Nat.reduceLT, Nat.reduceLeDiff, Nat.reduceAdd, Nat.reduceSub, Nat.reduceMul, Nat.reduceMod, Nat.reduceDiv, Nat.reduceBEq, RH]
      refine J.ite (fun h1 => ?_) (fun h1 => ?_)
      · have h1' := decide_eq_true h1
        have h1'' : decide (x4 < 256) = false := decide_eq_false (by omega)
        conv => arg 1; simp (maxSteps := 1000000) (disch := first | assumption | decide | with_unfolding_all rfl | omega | (simp only [LN] <;> omega) | (simp only [RO, OF])) only [RR, RM, LN, TT, d127_at, ↓reduceIte, Nat.reduceEqDiff, Nat.reduceLT, Nat.reduceLeDiff, Nat.reduceAdd, Nat.reduceSub, Nat.reduceMul, Nat.reduceMod, Nat.reduceDiv, Nat.reduceBEq, RH, h1'', h1']
        refine J.eq ret_seq ?_
        refine J.sat fun x6 h2 => ?_
        refine J.some ?_
        simp (maxSteps := 20000000) (disch := first | assumption | decide | with_unfolding_all rfl | omega | (simp only [LN] <;> omega) | (simp only [RO, OF])) only [RR, RM, LN, TT, d127_at, ↓reduceIte, Nat.reduceEqDiff, Nat.reduceLT, Nat.reduceLeDiff, Nat.reduceAdd, Nat.reduceSub, Nat.reduceMul, Nat.reduceMod, Nat.reduceDiv, Nat.reduceBEq, RH, h1'', h1', h2, FF, LN, NN, NT]
      · have h1' := decide_eq_false h1
        have h1'' : decide (x4 < 256) = true := decide_eq_true (by omega)
        conv => arg 1; simp (maxSteps := 1000000) (disch := first | assumption | decide | with_unfolding_all rfl | omega | (simp only [LN] <;> omega) | (simp only [RO, OF])) only [RR, RM, LN, TT, d127_at, ↓reduceIte, Nat.reduceEqDiff, Nat.reduceLT, Nat.reduceLeDiff, Nat.reduceAdd, Nat.reduceSub, Nat.reduceMul, Nat.reduceMod, Nat.reduceDiv, Nat.reduceBEq, RH, h1'', h1']
        refine J.eq ret_seq ?_
        refine J.sat fun x7 h3 => ?_
        refine J.some ?_
        simp (maxSteps := 20000000) (disch := first | assumption | decide | with_unfolding_all rfl | omega | (simp only [LN] <;> omega) | (simp only [RO, OF])) only [RR, RM, LN, TT, d127_at, ↓reduceIte, Nat.reduceEqDiff, Nat.reduceLT, Nat.reduceLeDiff, Nat.reduceAdd, Nat.reduceSub, Nat.reduceMul, Nat.reduceMod, Nat.reduceDiv, Nat.reduceBEq, RH, h1'', h1', h3, FF, LN, NN, NT]
    · conv => arg 1; simp (maxSteps := 1000000) (disch := first | assumption | decide | with_unfolding_all rfl | omega | (simp only [LN] <;> omega) | (simp only [RO, OF])) only [RR, RM, LN, TT, d127_at, ↓reduceIte, Nat.reduceEqDiff, Nat.reduceLT, Nat.reduceLeDiff, Nat.reduceAdd, Nat.reduceSub, Nat.reduceMul, Nat.reduceMod, Nat.reduceDiv, Nat.reduceBEq, RH]
      refine J.ite (fun h4 => ?_) (fun h4 => ?_)
      · have h4' := decide_eq_true h4
        have h4'' : decide (x2 < 65536) = false := decide_eq_false (by omega)
        conv => arg 1; simp (maxSteps := 1000000) (disch := first | assumption | decide | with_unfolding_all rfl | omega | (simp only [LN] <;> omega) | (simp only [RO, OF])) only [RR, RM, LN, TT, d127_at, ↓reduceIte, Nat.reduceEqDiff, Nat.reduceLT, Nat.reduceLeDiff, Nat.reduceAdd, Nat.reduceSub, Nat.reduceMul, Nat.reduceMod, Nat.reduceDiv, Nat.reduceBEq, RH, h4'', h4']
        refine J.jmp (t := (shrk .u64 x2 16, wk .i64 (x3 + 16))) hj2 ?_ ?_
        · first | rfl | (simp only [LN, NN, NT])
        · first | (simp (disch := first | assumption | decide | with_unfolding_all rfl | omega | (simp only [LN] <;> omega) | (simp only [RO, OF])) only [RR, ↓reduceIte, Nat.reduceEqDiff, Nat.reduceLT, Nat.reduceLeDiff, Nat.reduceAdd, Nat.reduceSub, Nat.reduceMul, Nat.reduceMod, Nat.reduceDiv, Nat.reduceBEq, LN, NN, NT]; done) | (simp (disch := first | assumption | decide | with_unfolding_all rfl | omega | (simp only [LN] <;> omega) | (simp only [RO, OF])) only [RR, ↓reduceIte, Nat.reduceEqDiff, Nat.reduceLT, Nat.reduceLeDiff, Nat.reduceAdd, Nat.reduceSub, Nat.reduceMul, Nat.reduceMod, Nat.reduceDiv, Nat.reduceBEq, LN, fm_app, NN, NT]; done) | rfl
      · have h4' := decide_eq_false h4
        have h4'' : decide (x2 < 65536) = true := decide_eq_true (by omega)
        conv => arg 1; simp (maxSteps := 1000000) (disch := first | assumption | decide | with_unfolding_all rfl | omega | (simp only [LN] <;> omega) | (simp only [RO, OF])) only [RR, RM, LN, TT, d127_at, ↓reduceIte, Nat.reduceEqDiff, Nat.reduceLT, Nat.reduceLeDiff, Nat.reduceAdd, Nat.reduceSub, Nat.reduceMul, Nat.reduceMod, Nat.reduceDiv, Nat.reduceBEq, RH, h4'', h4']
        refine J.jmp (t := (x2, x3)) hj2 ?_ ?_
        · first | rfl | (simp only [LN, NN, NT])
        · first | (simp (disch := first | assumption | decide | with_unfolding_all rfl | omega | (simp only [LN] <;> omega) | (simp only [RO, OF])) only [RR, ↓reduceIte, Nat.reduceEqDiff, Nat.reduceLT, Nat.reduceLeDiff, Nat.reduceAdd, Nat.reduceSub, Nat.reduceMul, Nat.reduceMod, Nat.reduceDiv, Nat.reduceBEq, LN, NN, NT]; done) | (simp (disch := first | assumption | decide | with_unfolding_all rfl | omega | (simp only [LN] <;> omega) | (simp only [RO, OF])) only [RR, ↓reduceIte, Nat.reduceEqDiff, Nat.reduceLT, Nat.reduceLeDiff, Nat.reduceAdd, Nat.reduceSub, Nat.reduceMul, Nat.reduceMod, Nat.reduceDiv, Nat.reduceBEq, LN, fm_app, NN, NT]; done) | rfl
  · conv => arg 1; simp (maxSteps := 1000000) (disch := first | assumption | decide | with_unfolding_all rfl | omega | (simp only [LN] <;> omega) | (simp only [RO, OF])) only [RR, RM, LN, TT, d127_at, ↓reduceIte, Nat.reduceEqDiff, Nat.reduceLT, Nat.reduceLeDiff, Nat.reduceAdd, Nat.reduceSub, Nat.reduceMul, Nat.reduceMod, Nat.reduceDiv, Nat.reduceBEq, RH]
    refine J.ite (fun h5 => ?_) (fun h5 => ?_)
    · have h5' := decide_eq_true h5
      have h5'' : decide (x1 < 4294967296) = false := decide_eq_false (by omega)
      conv => arg 1; simp (maxSteps := 1000000) (disch := first | assumption | decide | with_unfolding_all rfl | omega | (simp only [LN] <;> omega) | (simp only [RO, OF])) only [RR, RM, LN, TT, d127_at, ↓reduceIte, Nat.reduceEqDiff, Nat.reduceLT, Nat.reduceLeDiff, Nat.reduceAdd, Nat.reduceSub, Nat.reduceMul, Nat.reduceMod, Nat.reduceDiv, Nat.reduceBEq, RH, h5'', h5']
      refine J.jmp (t := (shrk .u64 x1 32, 32)) hj1 ?_ ?_
      · first | rfl | (simp only [LN, NN, NT])
      · first | (simp (disch := first | assumption | decide | with_unfolding_all rfl | omega | (simp only [LN] <;> omega) | (simp only [RO, OF])) only [RR, ↓reduceIte, Nat.reduceEqDiff, Nat.reduceLT, Nat.reduceLeDiff, Nat.reduceAdd, Nat.reduceSub, Nat.reduceMul, Nat.reduceMod, Nat.reduceDiv, Nat.reduceBEq, LN, NN, NT]; done) | (simp (disch := first | assumption | decide | with_unfolding_all rfl | omega | (simp only [LN] <;> omega) | (simp only [RO, OF])) only [RR, ↓reduceIte, Nat.reduceEqDiff, Nat.reduceLT, Nat.reduceLeDiff, Nat.reduceAdd, Nat.reduceSub, Nat.reduceMul, Nat.reduceMod, Nat.reduceDiv, Nat.reduceBEq, LN, fm_app, NN, NT]; done) | rfl
    · have h5' := decide_eq_false h5
      have h5'' : decide (x1 < 4294967296) = true := decide_eq_true (by omega)
      conv => arg 1; simp (maxSteps := 1000000) (disch := first | assumption | decide | with_unfolding_all rfl | omega | (simp only [LN] <;> omega) | (simp only [RO, OF])) only [RR, RM, LN, TT, d127_at, ↓reduceIte, Nat.reduceEqDiff, Nat.reduceLT, Nat.reduceLeDiff, Nat.reduceAdd, Nat.reduceSub, Nat.reduceMul, Nat.reduceMod, Nat.reduceDiv, Nat.reduceBEq, RH, h5'', h5']
      refine J.jmp (t := (x1, 0)) hj1 ?_ ?_
      · first | rfl | (simp only [LN, NN, NT])
      · first | (simp (disch := first | assumption | decide | with_unfolding_all rfl | omega | (simp only [LN] <;> omega) | (simp only [RO, OF])) only [RR, ↓reduceIte, Nat.reduceEqDiff, Nat.reduceLT, Nat.reduceLeDiff, Nat.reduceAdd, Nat.reduceSub, Nat.reduceMul, Nat.reduceMod, Nat.reduceDiv, Nat.reduceBEq, LN, NN, NT]; done) | (simp (disch := first | assumption | decide | with_unfolding_all rfl | omega | (simp only [LN] <;> omega) | (simp only [RO, OF])) only [RR, ↓reduceIte, Nat.reduceEqDiff, Nat.reduceLT, Nat.reduceLeDiff, Nat.reduceAdd, Nat.reduceSub, Nat.reduceMul, Nat.reduceMod, Nat.reduceDiv, Nat.reduceBEq, LN, fm_app, NN, NT]; done) | rfl
noncomputable def t127 (fu : Nat) : CallP := noP
theorem t127_ok (fu : Nat) : CpOK Tryz.prog (t127 fu ) := noP_ok
theorem ok127 (fu : Nat) (x1 : Int) (r) (h : math_bits_Len64 fu x1 = some r) : PureOK Tryz.prog 127 [.v (.int .u64 x1)] (e127 r) :=
  pure_J mixed (cp := t127 fu ) (t127_ok fu  ) noI_ok i127 (w127 _ fu x1  ) h
/-! 130: lattice/soft.outwards -/
def d130 : List (Nat × List Nat) := [(0, [4]), (0, []), (0, [0, 1, 5, 6, 7, 8, 9, 10, 11, 12, 13, 14, 15, 16, 17])]
def d130_at := And.intro (show d130.getD 0 (0, []) = (0, [4]) from rfl) <| And.intro (show d130.getD 1 (0, []) = (0, []) from rfl) <| (show d130.getD 2 (0, []) = (0, [0, 1, 5, 6, 7, 8, 9, 10, 11, 12, 13, 14, 15, 16, 17]) from rfl)
theorem i130 : finfo Tryz.prog 130 d130 = some ⟨bodyOf Tryz.f130, [.tmp 4], [4]⟩ := finfo_at Tryz.func130 rfl (by kernel_rfl) (by kernel_rfl)
def e130 : Bool → AV := fun r => .v (.bool r)
set_option maxHeartbeats 20000000 in
theorem w130 (cp : CallP) (fu : Nat) (x1 : Int) (x2 : Bool) : J (go Tryz.prog noC cp noI 0 [] d130 fu (fin Tryz.prog [.tmp 4] [4]) (bodyOf Tryz.f130) (initE 0 [.v (.int .i64 x1), .v (.bool x2)]) [] []) (soft_outwards fu x1 x2) e130 := by
  unfold soft_outwards e130
  conv => arg 1; simp (maxSteps := 1000000) (disch := first | assumption | decide | with_unfolding_all rfl | omega | (simp only [LN] <;> omega) | (simp only [RO, OF])) only [bodyOf, Tryz.f130, RR, RM, LN, TT, d130_at, ↓reduceIte, Nat.reduceEqDiff, Nat.reduceLT, Nat.reduceLeDiff, Nat.reduceAdd, Nat.reduceSub, Nat.reduceMul, Nat.reduceMod, Nat.reduceDiv, Nat.reduceBEq, RH]
  refine J.eq go_seq ?_
  conv => arg 1; simp (maxSteps := 1000000) (disch := first | assumption | decide | with_unfolding_all rfl | omega | (simp only [LN] <;> omega) | (simp only [RO, OF])) only [RR, RM, LN, TT, d130_at, ↓reduceIte, Nat.reduceEqDiff, Nat.reduceLT, Nat.reduceLeDiff, Nat.reduceAdd, Nat.reduceSub, Nat.reduceMul, Nat.reduceMod, Nat.reduceDiv, Nat.reduceBEq, RH]
  refine J.ite (fun h1 => ?_) (fun h1 => ?_)
  · have h1' := decide_eq_true h1
    conv => arg 1; simp (maxSteps := 1000000) (disch := first | assumption | decide | with_unfolding_all rfl | omega | (simp only [LN] <;> omega) | (simp only [RO, OF])) only [RR, RM, LN, TT, d130_at, ↓reduceIte, Nat.reduceEqDiff, Nat.reduceLT, Nat.reduceLeDiff, Nat.reduceAdd, Nat.reduceSub, Nat.reduceMul, Nat.reduceMod, Nat.reduceDiv, Nat.reduceBEq, RH, h1']
    refine J.ite (fun h2 => ?_) (fun h2 => ?_)
    · have h2' : x2 = true := h2
      conv => arg 1; simp (maxSteps := 1000000) (disch := first | assumption | decide | with_unfolding_all rfl | omega | (simp only [LN] <;> omega) | (simp only [RO, OF])) only [RR, RM, LN, TT, d130_at, ↓reduceIte, Nat.reduceEqDiff, Nat.reduceLT, Nat.reduceLeDiff, Nat.reduceAdd, Nat.reduceSub, Nat.reduceMul, Nat.reduceMod, Nat.reduceDiv, Nat.reduceBEq, RH, h1', h2']
      refine J.ite (fun h3 => ?_) (fun h3 => ?_)
      · exact J.none
      · have h3' := decide_eq_false h3
        conv => arg 1; simp (maxSteps := 1000000) (disch := first | assumption | decide | with_unfolding_all rfl | omega | (simp only [LN] <;> omega) | (simp only [RO, OF])) only [RR, RM, LN, TT, d130_at, ↓reduceIte, Nat.reduceEqDiff, Nat.reduceLT, Nat.reduceLeDiff, Nat.reduceAdd, Nat.reduceSub, Nat.reduceMul, Nat.reduceMod, Nat.reduceDiv, Nat.reduceBEq, RH, h1', h2', h3']
        refine J.eq ret_seq ?_
        refine J.some ?_
        simp (maxSteps := 20000000) (disch := first | assumption | decide | with_unfolding_all rfl | omega | (simp only [LN] <;> omega) | (simp only [RO, OF])) only [RR, RM, LN, TT, d130_at, ↓reduceIte, Nat.reduceEqDiff, Nat.reduceLT, Nat.reduceLeDiff, Nat.reduceAdd, Nat.reduceSub, Nat.reduceMul, Nat.reduceMod, Nat.reduceDiv, Nat.reduceBEq, RH, h1', h2', h3', FF, LN, NN, NT]
    · have h2' : x2 = false := Bool.eq_false_iff.2 h2
      conv => arg 1; simp (maxSteps := 1000000) (disch := first | assumption | decide | with_unfolding_all rfl | omega | (simp only [LN] <;> omega) | (simp only [RO, OF])) only [RR, RM, LN, TT, d130_at, ↓reduceIte, Nat.reduceEqDiff, Nat.reduceLT, Nat.reduceLeDiff, Nat.reduceAdd, Nat.reduceSub, Nat.reduceMul, Nat.reduceMod, Nat.reduceDiv, Nat.reduceBEq, RH, h1', h2']
      refine J.eq ret_seq ?_
      refine J.some ?_
      simp (maxSteps := 20000000) (disch := first | assumption | decide | with_unfolding_all rfl | omega | (simp only [LN] <;> omega) | (simp only [RO, OF])) only [RR, RM, LN, TT, d130_at, ↓reduceIte, Nat.reduceEqDiff, Nat.reduceLT, Nat.reduceLeDiff, Nat.reduceAdd, Nat.reduceSub, Nat.reduceMul, Nat.reduceMod, Nat.reduceDiv, Nat.reduceBEq, RH, h1', h2', FF, LN, NN, NT]
  · have h1' := decide_eq_false h1
    conv => arg 1; simp (maxSteps := 1000000) (disch := first | assumption | decide | with_unfolding_all rfl | omega | (simp only [LN] <;> omega) | (simp only [RO, OF])) only [RR, RM, LN, TT, d130_at, ↓reduceIte, Nat.reduceEqDiff, Nat.reduceLT, Nat.reduceLeDiff, Nat.reduceAdd, Nat.reduceSub, Nat.reduceMul, Nat.reduceMod, Nat.reduceDiv, Nat.reduceBEq, RH, h1']
    refine J.ite (fun h4 => ?_) (fun h4 => ?_)
    · have h4' := decide_eq_true h4
      conv => arg 1; simp (maxSteps := 1000000) (disch := first | assumption | decide | with_unfolding_all rfl | omega | (simp only [LN] <;> omega) | (simp only [RO, OF])) only [RR, RM, LN, TT, d130_at, ↓reduceIte, Nat.reduceEqDiff, Nat.reduceLT, Nat.reduceLeDiff, Nat.reduceAdd, Nat.reduceSub, Nat.reduceMul, Nat.reduceMod, Nat.reduceDiv, Nat.reduceBEq, RH, h1', h4']
      refine J.eq ret_seq ?_
      refine J.some ?_
      simp (maxSteps := 20000000) (disch := first | assumption | decide | with_unfolding_all rfl | omega | (simp only [LN] <;> omega) | (simp only [RO, OF])) only [RR, RM, LN, TT, d130_at, ↓reduceIte, Nat.reduceEqDiff, Nat.reduceLT, Nat.reduceLeDiff, Nat.reduceAdd, Nat.reduceSub, Nat.reduceMul, Nat.reduceMod, Nat.reduceDiv, Nat.reduceBEq, RH, h1', h4', FF, LN, NN, NT]
    · have h4' := decide_eq_false h4
      conv => arg 1; simp (maxSteps := 1000000) (disch := first | assumption | decide | with_unfolding_all rfl | omega | (simp only [LN] <;> omega) | (simp only [RO, OF])) only [RR, RM, LN, TT, d130_at, ↓reduceIte, Nat.reduceEqDiff, Nat.reduceLT, Nat.reduceLeDiff, Nat.reduceAdd, Nat.reduceSub, Nat.reduceMul, Nat.reduceMod, Nat.reduceDiv, Nat.reduceBEq, RH, h1', h4']
      refine J.eq ret_seq ?_
      refine J.some ?_
      simp (maxSteps := 20000000) (disch := first | assumption | decide | with_unfolding_all rfl | omega | (simp only [LN] <;> omega) | (simp only [RO, OF])) only [RR, RM, LN, TT, d130_at, ↓reduceIte, Nat.reduceEqDiff, Nat.reduceLT, Nat.reduceLeDiff, Nat.reduceAdd, Nat.reduceSub, Nat.reduceMul, Nat.reduceMod, Nat.reduceDiv, Nat.reduceBEq, RH, h1', h4', FF, LN, NN, NT]
noncomputable def t130 (fu : Nat) : CallP := noP
theorem t130_ok (fu : Nat) : CpOK Tryz.prog (t130 fu ) := noP_ok
theorem ok130 (fu : Nat) (x1 : Int) (x2 : Bool) (r) (h : soft_outwards fu x1 x2 = some r) : PureOK Tryz.prog 130 [.v (.int .i64 x1), .v (.bool x2)] (e130 r) :=
  pure_J mixed (cp := t130 fu ) (t130_ok fu  ) noI_ok i130 (w130 _ fu x1 x2  ) h
/-! 128: lattice/soft.tiny -/
def d128 : List (Nat × List Nat) := [(0, [4]), (0, []), (0, [0, 5, 6]), (0, []), (0, [8, 9, 10]), (0, []), (0, [1, 11, 12])]
def d128_at := And.intro (show d128.getD 0 (0, []) = (0, [4]) from rfl) <| And.intro (show d128.getD 1 (0, []) = (0, []) from rfl) <| And.intro (show d128.getD 2 (0, []) = (0, [0, 5, 6]) from rfl) <| And.intro (show d128.getD 3 (0, []) = (0, []) from rfl) <| And.intro (show d128.getD 4 (0, []) = (0, [8, 9, 10]) from rfl) <| And.intro (show d128.getD 5 (0, []) = (0, []) from rfl) <| (show d128.getD 6 (0, []) = (0, [1, 11, 12]) from rfl)
theorem i128 : finfo Tryz.prog 128 d128 = some ⟨bodyOf Tryz.f128, [.tmp 4], [24]⟩ := finfo_at Tryz.func128 rfl (by kernel_rfl) (by kernel_rfl)
def e128 : Int → AV := fun r => .v (.int .u32 r)
set_option maxHeartbeats 20000000 in
theorem w128 (cp : CallP) (fu : Nat) (x1 : Int) (x2 : Bool) (H130_0 : ∀ (a0 : Int) (a1 : Bool) r, soft_outwards fu a0 a1 = some r → cp 130 [.v (.int .i64 a0), .v (.bool a1)] = some (.v (.bool r))) (H66_0 : ∀ (a0 : Bool) r, soft_sign fu a0 = some r → cp 66 [.v (.bool a0)] = some (.v (.int .u32 r))) : J (go Tryz.prog noC cp noI 0 [] d128 fu (fin Tryz.prog [.tmp 4] [24]) (bodyOf Tryz.f128) (initE 0 [.v (.int .i64 x1), .v (.bool x2)]) [] []) (soft_tiny fu x1 x2) e128 := by
  unfold soft_tiny e128
  conv => arg 1; simp (maxSteps := 1000000) (disch := first | assumption | decide | with_unfolding_all rfl | omega | (simp only [LN] <;> omega) | (simp only [RO, OF])) only [bodyOf, Tryz.f128, RR, RM, LN, TT, d128_at, ↓reduceIte, Nat.reduceEqDiff, Nat.reduceLT, Nat.reduceLeDiff, Nat.reduceAdd, Nat.reduceSub, Nat.reduceMul, Nat.reduceMod, Nat.reduceDiv, Nat.reduceBEq, RH]
  refine J.eq go_seq ?_
  refine J.bind fun x3 h1 => ?_
  have e_h1 := H130_0 _ _ _ h1
  try simp only [NN, NT, LN] at e_h1
  conv => arg 1; simp (maxSteps := 1000000) (disch := first | assumption | decide | with_unfolding_all rfl | omega | (simp only [LN] <;> omega) | (simp only [RO, OF])) only [RR, RM, LN, TT, d128_at, ↓reduceIte, Nat.reduceEqDiff, Nat.reduceLT, Nat.reduceLeDiff, Nat.reduceAdd, Nat.reduceSub, Nat.reduceMul, Nat.reduceMod, Nat.reduceDiv, Nat.reduceBEq, RH, e_h1]
  refine J.ite (fun h2 => ?_) (fun h2 => ?_)
  · have h2' : x3 = true := h2
    refine J.bind fun x4 h3 => ?_
    have e_h3 := H66_0 _ _ h3
    try simp only [NN, NT, LN] at e_h3
    refine J.some ?_
    simp (maxSteps := 20000000) (disch := first | assumption | decide | with_unfolding_all rfl | omega | (simp only [LN] <;> omega) | (simp only [RO, OF])) only [RR, RM, LN, TT, d128_at, ↓reduceIte, Nat.reduceEqDiff, Nat.reduceLT, Nat.reduceLeDiff, Nat.reduceAdd, Nat.reduceSub, Nat.reduceMul, Nat.reduceMod, Nat.reduceDiv, Nat.reduceBEq, RH, e_h1, h2', e_h3, FF, LN, NN, NT]
  · have h2' : x3 = false := Bool.eq_false_iff.2 h2
    conv => arg 1; simp (maxSteps := 1000000) (disch := first | assumption | decide | with_unfolding_all rfl | omega | (simp only [LN] <;> omega) | (simp only [RO, OF])) only [RR, RM, LN, TT, d128_at, ↓reduceIte, Nat.reduceEqDiff, Nat.reduceLT, Nat.reduceLeDiff, Nat.reduceAdd, Nat.reduceSub, Nat.reduceMul, Nat.reduceMod, Nat.reduceDiv, Nat.reduceBEq, RH, e_h1, h2']
    refine J.eq ret_seq ?_
    refine J.bind fun x5 h4 => ?_
    have e_h4 := H66_0 _ _ h4
    try simp only [NN, NT, LN] at e_h4
    refine J.some ?_
    simp (maxSteps := 20000000) (disch := first | assumption | decide | with_unfolding_all rfl | omega | (simp only [LN] <;> omega) | (simp only [RO, OF])) only [RR, RM, LN, TT, d128_at, ↓reduceIte, Nat.reduceEqDiff, Nat.reduceLT, Nat.reduceLeDiff, Nat.reduceAdd, Nat.reduceSub, Nat.reduceMul, Nat.reduceMod, Nat.reduceDiv, Nat.reduceBEq, RH, e_h1, h2', e_h4, FF, LN, NN, NT]
noncomputable def t128 (fu : Nat) : CallP := orE 130 (mkC (fun (t : Int × Bool) => ([.v (.int .i64 t.1), .v (.bool t.2)] : List AV)) (fun t => soft_outwards fu t.1 t.2) e130) (orE 66 (mkC (fun (t : Bool) => ([.v (.bool t)] : List AV)) (fun t => soft_sign fu t) e66) (noP))
theorem t128_ok (fu : Nat) : CpOK Tryz.prog (t128 fu ) := orE_ok (orE_ok (noP_ok) (mkC_ok (fun t b h => ok66 fu t  b h))) (mkC_ok (fun t b h => ok130 fu t.1 t.2  b h))
theorem ok128 (fu : Nat) (x1 : Int) (x2 : Bool) (r) (h : soft_tiny fu x1 x2 = some r) : PureOK Tryz.prog 128 [.v (.int .i64 x1), .v (.bool x2)] (e128 r) :=
  pure_J mixed (cp := t128 fu ) (t128_ok fu  ) noI_ok i128 (w128 _ fu x1 x2  (fun a0 a1 r h => orE_hit (mkC_at (a := (a0, a1)) (by intro a b h; first | (exact rfl) | (simp only [INJ, IJ] at h; first | exact h | (simp_all [Prod.ext_iff]) )) h)) (fun a0 r h => orE_miss (by decide) (orE_hit (mkC_at (a := a0) (by intro a b h; first | (exact rfl) | (simp only [INJ, IJ] at h; first | exact h | (simp_all [Prod.ext_iff]) )) h)))) h
/-! 129: lattice/soft.huge -/
def d129 : List (Nat × List Nat) := [(0, [4]), (0, []), (0, [0, 5, 6, 7, 8, 9, 10, 11, 12, 13, 14, 15]), (0, []), (0, [17, 18, 19]), (0, []), (0, [1, 20, 21, 22])]
def d129_at := And.intro (show d129.getD 0 (0, []) = (0, [4]) from rfl) <| And.intro (show d129.getD 1 (0, []) = (0, []) from rfl) <| And.intro (show d129.getD 2 (0, []) = (0, [0, 5, 6, 7, 8, 9, 10, 11, 12, 13, 14, 15]) from rfl) <| And.intro (show d129.getD 3 (0, []) = (0, []) from rfl) <| And.intro (show d129.getD 4 (0, []) = (0, [17, 18, 19]) from rfl) <| And.intro (show d129.getD 5 (0, []) = (0, []) from rfl) <| (show d129.getD 6 (0, []) = (0, [1, 20, 21, 22]) from rfl)
theorem i129 : finfo Tryz.prog 129 d129 = some ⟨bodyOf Tryz.f129, [.tmp 4], [24]⟩ := finfo_at Tryz.func129 rfl (by kernel_rfl) (by kernel_rfl)
def e129 : Int → AV := fun r => .v (.int .u32 r)
set_option maxHeartbeats 20000000 in
theorem w129 (cp : CallP) (fu : Nat) (x1 : Int) (x2 : Bool) (H130_0 : ∀ (a0 : Int) (a1 : Bool) r, soft_outwards fu a0 a1 = some r → cp 130 [.v (.int .i64 a0), .v (.bool a1)] = some (.v (.bool r))) (H66_0 : ∀ (a0 : Bool) r, soft_sign fu a0 = some r → cp 66 [.v (.bool a0)] = some (.v (.int .u32 r))) : J (go Tryz.prog noC cp noI 0 [] d129 fu (fin Tryz.prog [.tmp 4] [24]) (bodyOf Tryz.f129) (initE 0 [.v (.int .i64 x1), .v (.bool x2)]) [] []) (soft_huge fu x1 x2) e129 := by
  unfold soft_huge e129
  conv => arg 1; simp (maxSteps := 1000000) (disch := first | assumption | decide | with_unfolding_all rfl | omega | (simp only [LN] <;> omega) | (simp only [RO, OF])) only [bodyOf, Tryz.f129, RR, RM, LN, TT, d129_at, ↓reduceIte, Nat.reduceEqDiff, Nat.reduceLT, Nat.reduceLeDiff, Nat.reduceAdd, Nat.reduceSub, Nat.reduceMul, Nat.reduceMod, Nat.reduceDiv, Nat.reduceBEq, RH]
  refine J.joinS (fun (t : Unit) => ([(1, .v (.bool x2))], [])) (fun t => soft_huge_k1 fu x2) ?_ (fun hj1 => ?_)
  · rintro ⟨⟩
    show J _ (soft_huge_k1 fu x2) _
    unfold soft_huge_k1
    refine J.bind fun x3 h1 => ?_
    have e_h1 := H66_0 _ _ h1
    try simp only [NN, NT, LN] at e_h1
    refine J.some ?_
    simp (maxSteps := 20000000) (disch := first | assumption | decide | with_unfolding_all rfl | omega | (simp only [LN] <;> omega) | (simp only [RO, OF])) only [RR, RM, LN, TT, d129_at, ↓reduceIte, Nat.reduceEqDiff, Nat.reduceLT, Nat.reduceLeDiff, Nat.reduceAdd, Nat.reduceSub, Nat.reduceMul, Nat.reduceMod, Nat.reduceDiv, Nat.reduceBEq, RH, e_h1, FF, LN, NN, NT]
  · refine J.eq go_seq ?_
    conv => arg 1; simp (maxSteps := 1000000) (disch := first | assumption | decide | with_unfolding_all rfl | omega | (simp only [LN] <;> omega) | (simp only [RO, OF])) only [RR, RM, LN, TT, d129_at, ↓reduceIte, Nat.reduceEqDiff, Nat.reduceLT, Nat.reduceLeDiff, Nat.reduceAdd, Nat.reduceSub, Nat.reduceMul, Nat.reduceMod, Nat.reduceDiv, Nat.reduceBEq, RH]
    refine J.ite (fun h2 => ?_) (fun h2 => ?_)
    · have h2' := decide_eq_true h2
      refine J.bind fun x4 h3 => ?_
      have e_h3 := H130_0 _ _ _ h3
      try simp only [NN, NT, LN] at e_h3
      conv => arg 1; simp (maxSteps := 1000000) (disch := first | assumption | decide | with_unfolding_all rfl | omega | (simp only [LN] <;> omega) | (simp only [RO, OF])) only [RR, RM, LN, TT, d129_at, ↓reduceIte, Nat.reduceEqDiff, Nat.reduceLT, Nat.reduceLeDiff, Nat.reduceAdd, Nat.reduceSub, Nat.reduceMul, Nat.reduceMod, Nat.reduceDiv, Nat.reduceBEq, RH, h2', e_h3]
      refine J.eq ret_seq ?_
      conv => arg 1; simp (maxSteps := 1000000) (disch := first | assumption | decide | with_unfolding_all rfl | omega | (simp only [LN] <;> omega) | (simp only [RO, OF])) only [RR, RM, LN, TT, d129_at, ↓reduceIte, Nat.reduceEqDiff, Nat.reduceLT, Nat.reduceLeDiff, Nat.reduceAdd, Nat.reduceSub, Nat.reduceMul, Nat.reduceMod, Nat.reduceDiv, Nat.reduceBEq, RH, h2', e_h3]
      refine J.ite (fun h4 => ?_) (fun h4 => ?_)
      · have h4' : x4 = true := h4
        conv => arg 1; simp (maxSteps := 1000000) (disch := first | assumption | decide | with_unfolding_all rfl | omega | (simp only [LN] <;> omega) | (simp only [RO, OF])) only [RR, RM, LN, TT, d129_at, ↓reduceIte, Nat.reduceEqDiff, Nat.reduceLT, Nat.reduceLeDiff, Nat.reduceAdd, Nat.reduceSub, Nat.reduceMul, Nat.reduceMod, Nat.reduceDiv, Nat.reduceBEq, RH, h2', e_h3, h4']
        refine J.jmp (t := ()) hj1 ?_ ?_
        · first | rfl | (simp only [LN, NN, NT])
        · first | (simp (disch := first | assumption | decide | with_unfolding_all rfl | omega | (simp only [LN] <;> omega) | (simp only [RO, OF])) only [RR, ↓reduceIte, Nat.reduceEqDiff, Nat.reduceLT, Nat.reduceLeDiff, Nat.reduceAdd, Nat.reduceSub, Nat.reduceMul, Nat.reduceMod, Nat.reduceDiv, Nat.reduceBEq, LN, NN, NT]; done) | (simp (disch := first | assumption | decide | with_unfolding_all rfl | omega | (simp only [LN] <;> omega) | (simp only [RO, OF])) only [RR, ↓reduceIte, Nat.reduceEqDiff, Nat.reduceLT, Nat.reduceLeDiff, Nat.reduceAdd, Nat.reduceSub, Nat.reduceMul, Nat.reduceMod, Nat.reduceDiv, Nat.reduceBEq, LN, fm_app, NN, NT]; done) | rfl
      · have h4' : x4 = false := Bool.eq_false_iff.2 h4
        refine J.bind fun x5 h5 => ?_
        have e_h5 := H66_0 _ _ h5
        try simp only [NN, NT, LN] at e_h5
        refine J.some ?_
        simp (maxSteps := 20000000) (disch := first | assumption | decide | with_unfolding_all rfl | omega | (simp only [LN] <;> omega) | (simp only [RO, OF])) only [RR, RM, LN, TT, d129_at, ↓reduceIte, Nat.reduceEqDiff, Nat.reduceLT, Nat.reduceLeDiff, Nat.reduceAdd, Nat.reduceSub, Nat.reduceMul, Nat.reduceMod, Nat.reduceDiv, Nat.reduceBEq, RH, h2', e_h3, h4', e_h5, FF, LN, NN, NT]
    · have h2' := decide_eq_false h2
      conv => arg 1; simp (maxSteps := 1000000) (disch := first | assumption | decide | with_unfolding_all rfl | omega | (simp only [LN] <;> omega) | (simp only [RO, OF])) only [RR, RM, LN, TT, d129_at, ↓reduceIte, Nat.reduceEqDiff, Nat.reduceLT, Nat.reduceLeDiff, Nat.reduceAdd, Nat.reduceSub, Nat.reduceMul, Nat.reduceMod, Nat.reduceDiv, Nat.reduceBEq, RH, h2']
      refine J.ite (fun h6 => ?_) (fun h6 => ?_)
      · have h6' := decide_eq_true h6
        refine J.bind fun x6 h7 => ?_
        have e_h7 := H130_0 _ _ _ h7
        try simp only [NN, NT, LN] at e_h7
        conv => arg 1; simp (maxSteps := 1000000) (disch := first | assumption | decide | with_unfolding_all rfl | omega | (simp only [LN] <;> omega) | (simp only [RO, OF])) only [RR, RM, LN, TT, d129_at, ↓reduceIte, Nat.reduceEqDiff, Nat.reduceLT, Nat.reduceLeDiff, Nat.reduceAdd, Nat.reduceSub, Nat.reduceMul, Nat.reduceMod, Nat.reduceDiv, Nat.reduceBEq, RH, h2', h6', e_h7]
        refine J.eq ret_seq ?_
        conv => arg 1; simp (maxSteps := 1000000) (disch := first | assumption | decide | with_unfolding_all rfl | omega | (simp only [LN] <;> omega) | (simp only [RO, OF])) only [RR, RM, LN, TT, d129_at, ↓reduceIte, Nat.reduceEqDiff, Nat.reduceLT, Nat.reduceLeDiff, Nat.reduceAdd, Nat.reduceSub, Nat.reduceMul, Nat.reduceMod, Nat.reduceDiv, Nat.reduceBEq, RH, h2', h6', e_h7]
        refine J.ite (fun h8 => ?_) (fun h8 => ?_)
        · have h8' : x6 = true := h8
          conv => arg 1; simp (maxSteps := 1000000) (disch := first | assumption | decide | with_unfolding_all rfl | omega | (simp only [LN] <;> omega) | (simp only [RO, OF])) only [RR, RM, LN, TT, d129_at, ↓reduceIte, Nat.reduceEqDiff, Nat.reduceLT, Nat.reduceLeDiff, Nat.reduceAdd, Nat.reduceSub, Nat.reduceMul, Nat.reduceMod, Nat.reduceDiv, Nat.reduceBEq, RH, h2', h6', e_h7, h8']
          refine J.jmp (t := ()) hj1 ?_ ?_
          · first | rfl | (simp only [LN, NN, NT])
          · first | (simp (disch := first | assumption | decide | with_unfolding_all rfl | omega | (simp only [LN] <;> omega) | (simp only [RO, OF])) only [RR, ↓reduceIte, Nat.reduceEqDiff, Nat.reduceLT, Nat.reduceLeDiff, Nat.reduceAdd, Nat.reduceSub, Nat.reduceMul, Nat.reduceMod, Nat.reduceDiv, Nat.reduceBEq, LN, NN, NT]; done) | (simp (disch := first | assumption | decide | with_unfolding_all rfl | omega | (simp only [LN] <;> omega) | (simp only [RO, OF])) only [RR, ↓reduceIte, Nat.reduceEqDiff, Nat.reduceLT, Nat.reduceLeDiff, Nat.reduceAdd, Nat.reduceSub, Nat.reduceMul, Nat.reduceMod, Nat.reduceDiv, Nat.reduceBEq, LN, fm_app, NN, NT]; done) | rfl
        · have h8' : x6 = false := Bool.eq_false_iff.2 h8
          refine J.bind fun x7 h9 => ?_
          have e_h9 := H66_0 _ _ h9
          try simp only [NN, NT, LN] at e_h9
          refine J.some ?_
          simp (maxSteps := 20000000) (disch := first | assumption | decide | with_unfolding_all rfl | omega | (simp only [LN] <;> omega) | (simp only [RO, OF])) only [RR, RM, LN, TT, d129_at, ↓reduceIte, Nat.reduceEqDiff, Nat.reduceLT, Nat.reduceLeDiff, Nat.reduceAdd, Nat.reduceSub, Nat.reduceMul, Nat.reduceMod, Nat.reduceDiv, Nat.reduceBEq, RH, h2', h6', e_h7, h8', e_h9, FF, LN, NN, NT]
      · have h6' := decide_eq_false h6
        conv => arg 1; simp (maxSteps := 1000000) (disch := first | assumption | decide | with_unfolding_all rfl | omega | (simp only [LN] <;> omega) | (simp only [RO, OF])) only [RR, RM, LN, TT, d129_at, ↓reduceIte, Nat.reduceEqDiff, Nat.reduceLT, Nat.reduceLeDiff, Nat.reduceAdd, Nat.reduceSub, Nat.reduceMul, Nat.reduceMod, Nat.reduceDiv, Nat.reduceBEq, RH, h2', h6']
        refine J.eq ret_seq ?_
        conv => arg 1; simp (maxSteps := 1000000) (disch := first | assumption | decide | with_unfolding_all rfl | omega | (simp only [LN] <;> omega) | (simp only [RO, OF])) only [RR, RM, LN, TT, d129_at, ↓reduceIte, Nat.reduceEqDiff, Nat.reduceLT, Nat.reduceLeDiff, Nat.reduceAdd, Nat.reduceSub, Nat.reduceMul, Nat.reduceMod, Nat.reduceDiv, Nat.reduceBEq, RH, h2', h6']
        refine J.jmp (t := ()) hj1 ?_ ?_
        · first | rfl | (simp only [LN, NN, NT])
        · first | (simp (disch := first | assumption | decide | with_unfolding_all rfl | omega | (simp only [LN] <;> omega) | (simp only [RO, OF])) only [RR, ↓reduceIte, Nat.reduceEqDiff, Nat.reduceLT, Nat.reduceLeDiff, Nat.reduceAdd, Nat.reduceSub, Nat.reduceMul, Nat.reduceMod, Nat.reduceDiv, Nat.reduceBEq, LN, NN, NT]; done) | (simp (disch := first | assumption | decide | with_unfolding_all rfl | omega | (simp only [LN] <;> omega) | (simp only [RO, OF])) only [RR, ↓reduceIte, Nat.reduceEqDiff, Nat.reduceLT, Nat.reduceLeDiff, Nat.reduceAdd, Nat.reduceSub, Nat.reduceMul, Nat.reduceMod, Nat.reduceDiv, Nat.reduceBEq, LN, fm_app, NN, NT]; done) | rfl
noncomputable def t129 (fu : Nat) : CallP := orE 130 (mkC (fun (t : Int × Bool) => ([.v (.int .i64 t.1), .v (.bool t.2)] : List AV)) (fun t => soft_outwards fu t.1 t.2) e130) (orE 66 (mkC (fun (t : Bool) => ([.v (.bool t)] : List AV)) (fun t => soft_sign fu t) e66) (noP))
theorem t129_ok (fu : Nat) : CpOK Tryz.prog (t129 fu ) := orE_ok (orE_ok (noP_ok) (mkC_ok (fun t b h => ok66 fu t  b h))) (mkC_ok (fun t b h => ok130 fu t.1 t.2  b h))
theorem ok129 (fu : Nat) (x1 : Int) (x2 : Bool) (r) (h : soft_huge fu x1 x2 = some r) : PureOK Tryz.prog 129 [.v (.int .i64 x1), .v (.bool x2)] (e129 r) :=
  pure_J mixed (cp := t129 fu ) (t129_ok fu  ) noI_ok i129 (w129 _ fu x1 x2  (fun a0 a1 r h => orE_hit (mkC_at (a := (a0, a1)) (by intro a b h; first | (exact rfl) | (simp only [INJ, IJ] at h; first | exact h | (simp_all [Prod.ext_iff]) )) h)) (fun a0 r h => orE_miss (by decide) (orE_hit (mkC_at (a := a0) (by intro a b h; first | (exact rfl) | (simp only [INJ, IJ] at h; first | exact h | (simp_all [Prod.ext_iff]) )) h)))) h
/-! 65: lattice/soft.Round -/
def d65 : List (Nat × List Nat) := [(0, [10]), (0, []), (0, [21, 22]), (0, [3, 4, 11]), (0, [24, 25, 26, 27, 28, 29]), (0, [14, 15, 16, 99, 111]), (0, [30, 31]), (0, []), (0, [33, 34, 35, 36, 37, 38]), (0, []), (0, [39, 40, 41]), (0, []), (0, [43, 44]), (0, []), (0, [45, 46, 47]), (0, []), (0, [48, 49, 50, 51, 52]), (0, []), (0, []), (0, []), (0, [53]), (0, []), (0, [54, 55, 56]), (0, []), (0, [57, 58, 59, 60, 61]), (0, []), (0, [62, 63, 64]), (0, []), (0, [65, 66, 67, 68, 69, 70, 71, 72, 73, 74, 75]), (0, []), (0, [18, 76, 77, 78, 79, 80, 81, 82]), (0, []), (0, [17, 83, 84, 85, 86, 87]), (0, []), (0, [89, 90]), (0, []), (0, [91, 92, 93, 94]), (0, []), (0, [96, 97, 98]), (0, []), (0, []), (0, []), (0, []), (0, []), (0, [100, 101, 102, 103, 104, 105, 106, 107]), (0, []), (0, [109, 110]), (0, []), (0, [112]), (0, []), (0, [113]), (0, []), (0, [114, 115, 116, 117, 118]), (0, []), (0, [120, 121]), (0, []), (0, [2, 12, 122, 123, 124]), (0, []), (0, [125]), (0, []), (0, [127, 128]), (0, []), (0, [129]), (0, []), (0, [131, 132, 133]), (0, []), (0, [13, 19, 134, 135, 136, 137, 138, 139]), (0, []), (0, [140]), (0, []), (0, [142, 143, 144]), (0, []), (0, [0, 1, 20, 145, 146, 147, 148, 149]), (0, []), (0, []), (0, []), (0, []), (0, []), (0, []), (0, []), (0, []), (0, []), (0, []), (0, []), (0, []), (0, []), (0, []), (0, []), (0, []), (0, []), (0, []), (0, []), (0, []), (0, []), (0, []), (0, []), (0, []), (0, []), (0, []), (0, []), (0, []), (0, []), (0, []), (0, []), (0, []), (0, []), (0, []), (0, []), (0, []), (0, []), (0, []), (0, []), (0, []), (0, []), (0, []), (0, []), (0, []), (0, []), (0, []), (0, []), (0, []), (0, []), (0, []), (0, []), (0, []), (0, []), (0, []), (0, []), (0, []), (0, []), (0, []), (0, []), (0, []), (0, []), (0, []), (0, []), (0, []), (0, []), (0, []), (0, []), (0, []), (0, []), (0, []), (0, []), (0, []), (0, []), (0, []), (0, []), (0, []), (0, []), (0, []), (0, []), (0, []), (0, []), (0, []), (0, []), (0, []), (0, []), (0, []), (0, []), (0, []), (0, []), (0, []), (0, []), (0, []), (0, []), (0, []), (0, []), (0, []), (0, []), (0, []), (0, []), (0, []), (0, []), (0, []), (0, []), (0, []), (0, []), (0, []), (0, []), (0, []), (0, []), (0, []), (0, []), (0, []), (0, []), (0, []), (0, []), (0, []), (0, []), (0, []), (0, []), (0, []), (0, []), (0, []), (0, []), (0, []), (0, []), (0, []), (0, []), (0, []), (0, []), (0, []), (0, []), (0, []), (0, []), (0, []), (0, []), (0, []), (0, []), (0, []), (0, []), (0, []), (0, []), (0, []), (0, []), (0, []), (0, []), (0, []), (0, []), (0, []), (0, []), (0, []), (1, [])]
def d65_at := And.intro (show d65.getD 0 (0, []) = (0, [10]) from rfl) <| And.intro (show d65.getD 1 (0, []) = (0, []) from rfl) <| And.intro (show d65.getD 2 (0, []) = (0, [21, 22]) from rfl) <| And.intro (show d65.getD 3 (0, []) = (0, [3, 4, 11]) from rfl) <| And.intro (show d65.getD 4 (0, []) = (0, [24, 25, 26, 27, 28, 29]) from rfl) <| And.intro (show d65.getD 5 (0, []) = (0, [14, 15, 16, 99, 111]) from rfl) <| And.intro (show d65.getD 6 (0, []) = (0, [30, 31]) from rfl) <| And.intro (show d65.getD 7 (0, []) = (0, []) from rfl) <| And.intro (show d65.getD 8 (0, []) = (0, [33, 34, 35, 36, 37, 38]) from rfl) <| And.intro (show d65.getD 9 (0, []) = (0, []) from rfl) <| And.intro (show d65.getD 10 (0, []) = (0, [39, 40, 41]) from rfl) <| And.intro (show d65.getD 11 (0, []) = (0, []) from rfl) <| And.intro (show d65.getD 12 (0, []) = (0, [43, 44]) from rfl) <| And.intro (show d65.getD 13 (0, []) = (0, []) from rfl) <| And.intro (show d65.getD 14 (0, []) = (0, [45, 46, 47]) from rfl) <| And.intro (show d65.getD 15 (0, []) = (0, []) from rfl) <| And.intro (show d65.getD 16 (0, []) = (0, [48, 49, 50, 51, 52]) from rfl) <| And.intro (show d65.getD 17 (0, []) = (0, []) from rfl) <| And.intro (show d65.getD 18 (0, []) = (0, []) from rfl) <| And.intro (show d65.getD 19 (0, []) = (0, []) from rfl) <| And.intro (show d65.getD 20 (0, []) = (0, [53]) from rfl) <| And.intro (show d65.getD 21 (0, []) = (0, []) from rfl) <| And.intro (show d65.getD 22 (0, []) = (0, [54, 55, 56]) from rfl) <| And.intro (show d65.getD 23 (0, []) = (0, []) from rfl) <| And.intro (show d65.getD 24 (0, []) = (0, [57, 58, 59, 60, 61]) from rfl) <| And.intro (show d65.getD 25 (0, []) = (0, []) from rfl) <| And.intro (show d65.getD 26 (0, []) = (0, [62, 63, 64]) from rfl) <| And.intro (show d65.getD 27 (0, []) = (0, []) from rfl) <| And.intro (show d65.getD 28 (0, []) = (0, [65, 66, 67, 68, 69, 70, 71, 72, 73, 74, 75]) from rfl) <| And.intro (show d65.getD 29 (0, []) = (0, []) from rfl) <| And.intro (show d65.getD 30 (0, []) = (0, [18, 76, 77, 78, 79, 80, 81, 82]) from rfl) <| And.intro (show d65.getD 31 (0, []) = (0, []) from rfl) <| And.intro (show d65.getD 32 (0, []) = (0, [17, 83, 84, 85, 86, 87]) from rfl) <| And.intro (show d65.getD 33 (0, []) = (0, []) from rfl) <| And.intro (show d65.getD 34 (0, []) = (0, [89, 90]) from rfl) <| And.intro (show d65.getD 35 (0, []) = (0, []) from rfl) <| And.intro (show d65.getD 36 (0, []) = (0, [91, 92, 93, 94]) from rfl) <| And.intro (show d65.getD 37 (0, []) = (0, []) from rfl) <| And.intro (show d65.getD 38 (0, []) = (0, [96, 97, 98]) from rfl) <| And.intro (show d65.getD 39 (0, []) = (0, []) from rfl) <| And.intro (show d65.getD 40 (0, []) = (0, []) from rfl) <| And.intro (show d65.getD 41 (0, []) = (0, []) from rfl) <| And.intro (show d65.getD 42 (0, []) = (0, []) from rfl) <| And.intro (show d65.getD 43 (0, []) = (0, []) from rfl) <| And.intro (show d65.getD 44 (0, []) = (0, [100, 101, 102, 103, 104, 105, 106, 107]) from rfl) <| And.intro (show d65.getD 45 (0, []) = (0, []) from rfl) <| And.intro (show d65.getD 46 (0, []) = (0, [109, 110]) from rfl) <| And.intro (show d65.getD 47 (0, []) = (0, []) from rfl) <| And.intro (show d65.getD 48 (0, []) = (0, [112]) from rfl) <| And.intro (show d65.getD 49 (0, []) = (0, []) from rfl) <| And.intro (show d65.getD 50 (0, []) = (0, [113]) from rfl) <| And.intro (show d65.getD 51 (0, []) = (0, []) from rfl) <| And.intro (show d65.getD 52 (0, []) = (0, [114, 115, 116, 117, 118]) from rfl) <| And.intro (show d65.getD 53 (0, []) = (0, []) from rfl) <| And.intro (show d65.getD 54 (0, []) = (0, [120, 121]) from rfl) <| And.intro (show d65.getD 55 (0, []) = (0, []) from rfl) <| And.intro (show d65.getD 56 (0, []) = (0, [2, 12, 122, 123, 124]) from rfl) <| And.intro (show d65.getD 57 (0, []) = (0, []) from rfl) <| And.intro (show d65.getD 58 (0, []) = (0, [125]) from rfl) <| And.intro (show d65.getD 59 (0, []) = (0, []) from rfl) <| And.intro (show d65.getD 60 (0, []) = (0, [127, 128]) from rfl) <| And.intro (show d65.getD 61 (0, []) = (0, []) from rfl) <| And.intro (show d65.getD 62 (0, []) = (0, [129]) from rfl) <| And.intro (show d65.getD 63 (0, []) = (0, []) from rfl) <| And.intro (show d65.getD 64 (0, []) = (0, [131, 132, 133]) from rfl) <| And.intro (show d65.getD 65 (0, []) = (0, []) from rfl) <| And.intro (show d65.getD 66 (0, []) = (0, [13, 19, 134, 135, 136, 137, 138, 139]) from rfl) <| And.intro (show d65.getD 67 (0, []) = (0, []) from rfl) <| And.intro (show d65.getD 68 (0, []) = (0, [140]) from rfl) <| And.intro (show d65.getD 69 (0, []) = (0, []) from rfl) <| And.intro (show d65.getD 70 (0, []) = (0, [142, 143, 144]) from rfl) <| And.intro (show d65.getD 71 (0, []) = (0, []) from rfl) <| And.intro (show d65.getD 72 (0, []) = (0, [0, 1, 20, 145, 146, 147, 148, 149]) from rfl) <| And.intro (show d65.getD 73 (0, []) = (0, []) from rfl) <| And.intro (show d65.getD 74 (0, []) = (0, []) from rfl) <| And.intro (show d65.getD 75 (0, []) = (0, []) from rfl) <| And.intro (show d65.getD 76 (0, []) = (0, []) from rfl) <| And.intro (show d65.getD 77 (0, []) = (0, []) from rfl) <| And.intro (show d65.getD 78 (0, []) = (0, []) from rfl) <| And.intro (show d65.getD 79 (0, []) = (0, []) from rfl) <| And.intro (show d65.getD 80 (0, []) = (0, []) from rfl) <| And.intro (show d65.getD 81 (0, []) = (0, []) from rfl) <| And.intro (show d65.getD 82 (0, []) = (0, []) from rfl) <| And.intro (show d65.getD 83 (0, []) = (0, []) from rfl) <| And.intro (show d65.getD 84 (0, []) = (0, []) from rfl) <| And.intro (show d65.getD 85 (0, []) = (0, []) from rfl) <| And.intro (show d65.getD 86 (0, []) = (0, []) from rfl) <| And.intro (show d65.getD 87 (0, []) = (0, []) from rfl) <| And.intro (show d65.getD 88 (0, []) = (0, []) from rfl) <| And.intro (show d65.getD 89 (0, []) = (0, []) from rfl) <| And.intro (show d65.getD 90 (0, []) = (0, []) from rfl) <| And.intro (show d65.getD 91 (0, []) = (0, []) from rfl) <| And.intro (show d65.getD 92 (0, []) = (0, []) from rfl) <| And.intro (show d65.getD 93 (0, []) = (0, []) from rfl) <| And.intro (show d65.getD 94 (0, []) = (0, []) from rfl) <| And.intro (show d65.getD 95 (0, []) = (0, []) from rfl) <| And.intro (show d65.getD 96 (0, []) = (0, []) from rfl) <| And.intro (show d65.getD 97 (0, []) = (0, []) from rfl) <| And.intro (show d65.getD 98 (0, []) = (0, []) from rfl) <| And.intro (show d65.getD 99 (0, []) = (0, []) from rfl) <| And.intro (show d65.getD 100 (0, []) = (0, []) from rfl) <| And.intro (show d65.getD 101 (0, []) = (0, []) from rfl) <| And.intro (show d65.getD 102 (0, []) = (0, []) from rfl) <| And.intro (show d65.getD 103 (0, []) = (0, []) from rfl) <| And.intro (show d65.getD 104 (0, []) = (0, []) from rfl) <| And.intro (show d65.getD 105 (0, []) = (0, []) from rfl) <| And.intro (show d65.getD 106 (0, []) = (0, []) from rfl) <| And.intro (show d65.getD 107 (0, []) = (0, []) from rfl) <| And.intro (show d65.getD 108 (0, []) = (0, []) from rfl) <| And.intro (show d65.getD 109 (0, []) = (0, []) from rfl) <| And.intro (show d65.getD 110 (0, []) = (0, []) from rfl) <| And.intro (show d65.getD 111 (0, []) = (0, []) from rfl) <| And.intro (show d65.getD 112 (0, []) = (0, []) from rfl) <| And.intro (show d65.getD 113 (0, []) = (0, []) from rfl) <| And.intro (show d65.getD 114 (0, []) = (0, []) from rfl) <| And.intro (show d65.getD 115 (0, []) = (0, []) from rfl) <| And.intro (show d65.getD 116 (0, []) = (0, []) from rfl) <| And.intro (show d65.getD 117 (0, []) = (0, []) from rfl) <| And.intro (show d65.getD 118 (0, []) = (0, []) from rfl) <| And.intro (show d65.getD 119 (0, []) = (0, []) from rfl) <| And.intro (show d65.getD 120 (0, []) = (0, []) from rfl) <| And.intro (show d65.getD 121 (0, []) = (0, []) from rfl) <| And.intro (show d65.getD 122 (0, []) = (0, []) from rfl) <| And.intro (show d65.getD 123 (0, []) = (0, []) from rfl) <| And.intro (show d65.getD 124 (0, []) = (0, []) from rfl) <| And.intro (show d65.getD 125 (0, []) = (0, []) from rfl) <| And.intro (show d65.getD 126 (0, []) = (0, []) from rfl) <| And.intro (show d65.getD 127 (0, []) = (0, []) from rfl) <| And.intro (show d65.getD 128 (0, []) = (0, []) from rfl) <| And.intro (show d65.getD 129 (0, []) = (0, []) from rfl) <| And.intro (show d65.getD 130 (0, []) = (0, []) from rfl) <| And.intro (show d65.getD 131 (0, []) = (0, []) from rfl) <| And.intro (show d65.getD 132 (0, []) = (0, []) from rfl) <| And.intro (show d65.getD 133 (0, []) = (0, []) from rfl) <| And.intro (show d65.getD 134 (0, []) = (0, []) from rfl) <| And.intro (show d65.getD 135 (0, []) = (0, []) from rfl) <| And.intro (show d65.getD 136 (0, []) = (0, []) from rfl) <| And.intro (show d65.getD 137 (0, []) = (0, []) from rfl) <| And.intro (show d65.getD 138 (0, []) = (0, []) from rfl) <| And.intro (show d65.getD 139 (0, []) = (0, []) from rfl) <| And.intro (show d65.getD 140 (0, []) = (0, []) from rfl) <| And.intro (show d65.getD 141 (0, []) = (0, []) from rfl) <| And.intro (show d65.getD 142 (0, []) = (0, []) from rfl) <| And.intro (show d65.getD 143 (0, []) = (0, []) from rfl) <| And.intro (show d65.getD 144 (0, []) = (0, []) from rfl) <| And.intro (show d65.getD 145 (0, []) = (0, []) from rfl) <| And.intro (show d65.getD 146 (0, []) = (0, []) from rfl) <| And.intro (show d65.getD 147 (0, []) = (0, []) from rfl) <| And.intro (show d65.getD 148 (0, []) = (0, []) from rfl) <| And.intro (show d65.getD 149 (0, []) = (0, []) from rfl) <| And.intro (show d65.getD 150 (0, []) = (0, []) from rfl) <| And.intro (show d65.getD 151 (0, []) = (0, []) from rfl) <| And.intro (show d65.getD 152 (0, []) = (0, []) from rfl) <| And.intro (show d65.getD 153 (0, []) = (0, []) from rfl) <| And.intro (show d65.getD 154 (0, []) = (0, []) from rfl) <| And.intro (show d65.getD 155 (0, []) = (0, []) from rfl) <| And.intro (show d65.getD 156 (0, []) = (0, []) from rfl) <| And.intro (show d65.getD 157 (0, []) = (0, []) from rfl) <| And.intro (show d65.getD 158 (0, []) = (0, []) from rfl) <| And.intro (show d65.getD 159 (0, []) = (0, []) from rfl) <| And.intro (show d65.getD 160 (0, []) = (0, []) from rfl) <| And.intro (show d65.getD 161 (0, []) = (0, []) from rfl) <| And.intro (show d65.getD 162 (0, []) = (0, []) from rfl) <| And.intro (show d65.getD 163 (0, []) = (0, []) from rfl) <| And.intro (show d65.getD 164 (0, []) = (0, []) from rfl) <| And.intro (show d65.getD 165 (0, []) = (0, []) from rfl) <| And.intro (show d65.getD 166 (0, []) = (0, []) from rfl) <| And.intro (show d65.getD 167 (0, []) = (0, []) from rfl) <| And.intro (show d65.getD 168 (0, []) = (0, []) from rfl) <| And.intro (show d65.getD 169 (0, []) = (0, []) from rfl) <| And.intro (show d65.getD 170 (0, []) = (0, []) from rfl) <| And.intro (show d65.getD 171 (0, []) = (0, []) from rfl) <| And.intro (show d65.getD 172 (0, []) = (0, []) from rfl) <| And.intro (show d65.getD 173 (0, []) = (0, []) from rfl) <| And.intro (show d65.getD 174 (0, []) = (0, []) from rfl) <| And.intro (show d65.getD 175 (0, []) = (0, []) from rfl) <| And.intro (show d65.getD 176 (0, []) = (0, []) from rfl) <| And.intro (show d65.getD 177 (0, []) = (0, []) from rfl) <| And.intro (show d65.getD 178 (0, []) = (0, []) from rfl) <| And.intro (show d65.getD 179 (0, []) = (0, []) from rfl) <| And.intro (show d65.getD 180 (0, []) = (0, []) from rfl) <| And.intro (show d65.getD 181 (0, []) = (0, []) from rfl) <| And.intro (show d65.getD 182 (0, []) = (0, []) from rfl) <| And.intro (show d65.getD 183 (0, []) = (0, []) from rfl) <| And.intro (show d65.getD 184 (0, []) = (0, []) from rfl) <| And.intro (show d65.getD 185 (0, []) = (0, []) from rfl) <| And.intro (show d65.getD 186 (0, []) = (0, []) from rfl) <| And.intro (show d65.getD 187 (0, []) = (0, []) from rfl) <| And.intro (show d65.getD 188 (0, []) = (0, []) from rfl) <| And.intro (show d65.getD 189 (0, []) = (0, []) from rfl) <| And.intro (show d65.getD 190 (0, []) = (0, []) from rfl) <| And.intro (show d65.getD 191 (0, []) = (0, []) from rfl) <| And.intro (show d65.getD 192 (0, []) = (0, []) from rfl) <| And.intro (show d65.getD 193 (0, []) = (0, []) from rfl) <| And.intro (show d65.getD 194 (0, []) = (0, []) from rfl) <| And.intro (show d65.getD 195 (0, []) = (0, []) from rfl) <| And.intro (show d65.getD 196 (0, []) = (0, []) from rfl) <| And.intro (show d65.getD 197 (0, []) = (0, []) from rfl) <| And.intro (show d65.getD 198 (0, []) = (0, []) from rfl) <| And.intro (show d65.getD 199 (0, []) = (0, []) from rfl) <| And.intro (show d65.getD 200 (0, []) = (0, []) from rfl) <| And.intro (show d65.getD 201 (0, []) = (0, []) from rfl) <| And.intro (show d65.getD 202 (0, []) = (0, []) from rfl) <| And.intro (show d65.getD 203 (0, []) = (0, []) from rfl) <| And.intro (show d65.getD 204 (0, []) = (0, []) from rfl) <| And.intro (show d65.getD 205 (0, []) = (0, []) from rfl) <| And.intro (show d65.getD 206 (0, []) = (0, []) from rfl) <| And.intro (show d65.getD 207 (0, []) = (0, []) from rfl) <| And.intro (show d65.getD 208 (0, []) = (0, []) from rfl) <| And.intro (show d65.getD 209 (0, []) = (0, []) from rfl) <| And.intro (show d65.getD 210 (0, []) = (0, []) from rfl) <| And.intro (show d65.getD 211 (0, []) = (0, []) from rfl) <| And.intro (show d65.getD 212 (0, []) = (0, []) from rfl) <| And.intro (show d65.getD 213 (0, []) = (0, []) from rfl) <| And.intro (show d65.getD 214 (0, []) = (0, []) from rfl) <| And.intro (show d65.getD 215 (0, []) = (0, []) from rfl) <| And.intro (show d65.getD 216 (0, []) = (0, []) from rfl) <| And.intro (show d65.getD 217 (0, []) = (0, []) from rfl) <| And.intro (show d65.getD 218 (0, []) = (0, []) from rfl) <| And.intro (show d65.getD 219 (0, []) = (0, []) from rfl) <| And.intro (show d65.getD 220 (0, []) = (0, []) from rfl) <| And.intro (show d65.getD 221 (0, []) = (0, []) from rfl) <| And.intro (show d65.getD 222 (0, []) = (0, []) from rfl) <| (show d65.getD 223 (0, []) = (1, []) from rfl)
theorem i65 : finfo Tryz.prog 65 d65 = some ⟨bodyOf Tryz.f65, [.tmp 10], [24]⟩ := finfo_at Tryz.func65 rfl (by kernel_rfl) (by kernel_rfl)
def e65 : Int → AV := fun r => .v (.int .u32 r)
set_option maxHeartbeats 20000000 in
theorem w65 (cp : CallP) (fu : Nat) (x1 : Int) (x2 : Bool) (x3 : Int) (x4 : Int) (x5 : Bool) (H127_0 : ∀ (a0 : Int) r, math_bits_Len64 fu a0 = some r → cp 127 [.v (.int .u64 a0)] = some (.v (.int .i64 r))) (H128_0 : ∀ (a0 : Int) (a1 : Bool) r, soft_tiny fu a0 a1 = some r → cp 128 [.v (.int .i64 a0), .v (.bool a1)] = some (.v (.int .u32 r))) (H66_0 : ∀ (a0 : Bool) r, soft_sign fu a0 = some r → cp 66 [.v (.bool a0)] = some (.v (.int .u32 r))) (H129_0 : ∀ (a0 : Int) (a1 : Bool) r, soft_huge fu a0 a1 = some r → cp 129 [.v (.int .i64 a0), .v (.bool a1)] = some (.v (.int .u32 r))) (H130_0 : ∀ (a0 : Int) (a1 : Bool) r, soft_outwards fu a0 a1 = some r → cp 130 [.v (.int .i64 a0), .v (.bool a1)] = some (.v (.bool r))) : J (go Tryz.prog noC cp noI 0 [] d65 fu (fin Tryz.prog [.tmp 10] [24]) (bodyOf Tryz.f65) (initE 0 [.v (.int .i64 x1), .v (.bool x2), .v (.int .i64 x3), .v (.int .u64 x4), .v (.bool x5)]) [] []) (soft_Round fu x1 x2 x3 x4 x5) e65 := by
  unfold soft_Round e65
  refine J.bind fun x6 h1 => ?_
  have e_h1 := H127_0 _ _ h1
  try simp only [NN, NT, LN] at e_h1
  conv => arg 1; simp (maxSteps := 1000000) (disch := first | assumption | decide | with_unfolding_all rfl | omega | (simp only [LN] <;> omega) | (simp only [RO, OF])) only [bodyOf, Tryz.f65, RR, RM, LN, TT, d65_at, ↓reduceIte, Nat.reduceEqDiff, Nat.reduceLT, Nat.reduceLeDiff, Nat.reduceAdd, Nat.reduceSub, Nat.reduceMul, Nat.reduceMod, Nat.reduceDiv, Nat.reduceBEq, RH, e_h1]
  refine J.joinS (fun (t : Unit) => ([(0, .v (.int .i64 x1)), (1, .v (.bool x2)), (2, .v (.int .i64 x3)), (3, .v (.int .u64 x4)), (4, .v (.bool x5)), (11, .v (.int .i64 x6))], [])) (fun t => soft_Round_k1 fu x1 x2 x3 x4 x5 x6) ?_ (fun hj1 => ?_)
  · rintro ⟨⟩
    show J _ (soft_Round_k1 fu x1 x2 x3 x4 x5 x6) _
    unfold soft_Round_k1
    conv => arg 1; simp (maxSteps := 1000000) (disch := first | assumption | decide | with_unfolding_all rfl | omega | (simp only [LN] <;> omega) | (simp only [RO, OF])) only [RR, RM, LN, TT, d65_at, ↓reduceIte, Nat.reduceEqDiff, Nat.reduceLT, Nat.reduceLeDiff, Nat.reduceAdd, Nat.reduceSub, Nat.reduceMul, Nat.reduceMod, Nat.reduceDiv, Nat.reduceBEq, RH, e_h1]
    refine J.joinS (fun (t : Int × Bool × Bool × Bool) => ([(0, .v (.int .i64 x1)), (1, .v (.bool x2)), (2, .v (.int .i64 x3)), (12, .v (.int .i64 (imax (wk .i64 (x6 - 24)) (wk .i64 ((-149) - x3))))), (13, .v (.int .u64 t.1)), (14, .v (.bool t.2.1)), (15, .v (.bool t.2.2.1)), (16, .v (.bool t.2.2.2))], [])) (fun t => soft_Round_k2 fu x1 x2 x3 x6 t.1 t.2.1 t.2.2.1 t.2.2.2) ?_ (fun hj2 => ?_)
    · rintro ⟨x7, x8, x9, x10⟩
      show J _ (soft_Round_k2 fu x1 x2 x3 x6 x7 x8 x9 x10) _
      unfold soft_Round_k2
      refine J.joinS (fun (t : Int) => ([(0, .v (.int .i64 x1)), (1, .v (.bool x2)), (2, .v (.int .i64 x3)), (12, .v (.int .i64 (imax (wk .i64 (x6 - 24)) (wk .i64 ((-149) - x3))))), (13, .v (.int .u64 t))], [])) (fun t => soft_Round_k3 fu x1 x2 x3 x6 t) ?_ (fun hj3 => ?_)
      · rintro x11
        show J _ (soft_Round_k3 fu x1 x2 x3 x6 x11) _
        unfold soft_Round_k3
        conv => arg 1; simp (maxSteps := 1000000) (disch := first | assumption | decide | with_unfolding_all rfl | omega | (simp only [LN] <;> omega) | (simp only [RO, OF])) only [RR, RM, LN, TT, d65_at, ↓reduceIte, Nat.reduceEqDiff, Nat.reduceLT, Nat.reduceLeDiff, Nat.reduceAdd, Nat.reduceSub, Nat.reduceMul, Nat.reduceMod, Nat.reduceDiv, Nat.reduceBEq, RH, e_h1]
        refine J.eq go_seq ?_
        conv => arg 1; simp (maxSteps := 1000000) (disch := first | assumption | decide | with_unfolding_all rfl | omega | (simp only [LN] <;> omega) | (simp only [RO, OF])) only [RR, RM, LN, TT, d65_at, ↓reduceIte, Nat.reduceEqDiff, Nat.reduceLT, Nat.reduceLeDiff, Nat.reduceAdd, Nat.reduceSub, Nat.reduceMul, Nat.reduceMod, Nat.reduceDiv, Nat.reduceBEq, RH, e_h1]
        refine J.ite (fun h2 => ?_) (fun h2 => ?_)
        · have h2' := decide_eq_true h2
          refine J.bind fun x12 h3 => ?_
          have e_h3 := H66_0 _ _ h3
          try simp only [NN, NT, LN] at e_h3
          refine J.some ?_
          simp (maxSteps := 20000000) (disch := first | assumption | decide | with_unfolding_all rfl | omega | (simp only [LN] <;> omega) | (simp only [RO, OF])) only [RR, RM, LN, TT, d65_at, ↓reduceIte, Nat.reduceEqDiff, Nat.reduceLT, Nat.reduceLeDiff, Nat.reduceAdd, Nat.reduceSub, Nat.reduceMul, Nat.reduceMod, Nat.reduceDiv, Nat.reduceBEq, RH, e_h1, h2', e_h3, FF, LN, NN, NT]
        · have h2' := decide_eq_false h2
          conv => arg 1; simp (maxSteps := 1000000) (disch := first | assumption | decide | with_unfolding_all rfl | omega | (simp only [LN] <;> omega) | (simp only [RO, OF])) only [RR, RM, LN, TT, d65_at, ↓reduceIte, Nat.reduceEqDiff, Nat.reduceLT, Nat.reduceLeDiff, Nat.reduceAdd, Nat.reduceSub, Nat.reduceMul, Nat.reduceMod, Nat.reduceDiv, Nat.reduceBEq, RH, e_h1, h2']
          refine J.eq ret_seq ?_
          refine J.eq go_seq ?_
          conv => arg 1; simp (maxSteps := 1000000) (disch := first | assumption | decide | with_unfolding_all rfl | omega | (simp only [LN] <;> omega) | (simp only [RO, OF])) only [RR, RM, LN, TT, d65_at, ↓reduceIte, Nat.reduceEqDiff, Nat.reduceLT, Nat.reduceLeDiff, Nat.reduceAdd, Nat.reduceSub, Nat.reduceMul, Nat.reduceMod, Nat.reduceDiv, Nat.reduceBEq, RH, e_h1, h2']
          refine J.ite (fun h4 => ?_) (fun h4 => ?_)
          · have h4' := decide_eq_true h4
            have h4'' : decide ((wk .i64 (x3 + (imax (wk .i64 (x6 - 24)) (wk .i64 ((-149) - x3))))) ≤ 104) = false := decide_eq_false (by omega)
            refine J.bind fun x13 h5 => ?_
            have e_h5 := H129_0 _ _ _ h5
            try simp only [NN, NT, LN] at e_h5
            refine J.some ?_
            simp (maxSteps := 20000000) (disch := first | assumption | decide | with_unfolding_all rfl | omega | (simp only [LN] <;> omega) | (simp only [RO, OF])) only [RR, RM, LN, TT, d65_at, ↓reduceIte, Nat.reduceEqDiff, Nat.reduceLT, Nat.reduceLeDiff, Nat.reduceAdd, Nat.reduceSub, Nat.reduceMul, Nat.reduceMod, Nat.reduceDiv, Nat.reduceBEq, RH, e_h1, h2', h4'', h4', e_h5, FF, LN, NN, NT]
          · have h4' := decide_eq_false h4
            have h4'' : decide ((wk .i64 (x3 + (imax (wk .i64 (x6 - 24)) (wk .i64 ((-149) - x3))))) ≤ 104) = true := decide_eq_true (by omega)
            conv => arg 1; simp (maxSteps := 1000000) (disch := first | assumption | decide | with_unfolding_all rfl | omega | (simp only [LN] <;> omega) | (simp only [RO, OF])) only [RR, RM, LN, TT, d65_at, ↓reduceIte, Nat.reduceEqDiff, Nat.reduceLT, Nat.reduceLeDiff, Nat.reduceAdd, Nat.reduceSub, Nat.reduceMul, Nat.reduceMod, Nat.reduceDiv, Nat.reduceBEq, RH, e_h1, h2', h4'', h4']
            refine J.eq ret_seq ?_
            conv => arg 1; simp (maxSteps := 1000000) (disch := first | assumption | decide | with_unfolding_all rfl | omega | (simp only [LN] <;> omega) | (simp only [RO, OF])) only [RR, RM, LN, TT, d65_at, ↓reduceIte, Nat.reduceEqDiff, Nat.reduceLT, Nat.reduceLeDiff, Nat.reduceAdd, Nat.reduceSub, Nat.reduceMul, Nat.reduceMod, Nat.reduceDiv, Nat.reduceBEq, RH, e_h1, h2', h4'', h4']
            refine J.eq go_seq ?_
            conv => arg 1; simp (maxSteps := 1000000) (disch := first | assumption | decide | with_unfolding_all rfl | omega | (simp only [LN] <;> omega) | (simp only [RO, OF])) only [RR, RM, LN, TT, d65_at, ↓reduceIte, Nat.reduceEqDiff, Nat.reduceLT, Nat.reduceLeDiff, Nat.reduceAdd, Nat.reduceSub, Nat.reduceMul, Nat.reduceMod, Nat.reduceDiv, Nat.reduceBEq, RH, e_h1, h2', h4'', h4']
            refine J.ite (fun h6 => ?_) (fun h6 => ?_)
            · have h6' := decide_eq_true h6
              have h6'' : decide ((wk .u64 ((shlk .u64 (wk .u64 (wk .i64 ((wk .i64 (x3 + (imax (wk .i64 (x6 - 24)) (wk .i64 ((-149) - x3))))) + 149))) 23) + x11)) < 2139095040) = false := decide_eq_false (by omega)
              refine J.bind fun x14 h7 => ?_
              have e_h7 := H129_0 _ _ _ h7
              try simp only [NN, NT, LN] at e_h7
              refine J.some ?_
              simp (maxSteps := 20000000) (disch := first | assumption | decide | with_unfolding_all rfl | omega | (simp only [LN] <;> omega) | (simp only [RO, OF])) only [RR, RM, LN, TT, d65_at, ↓reduceIte, Nat.reduceEqDiff, Nat.reduceLT, Nat.reduceLeDiff, Nat.reduceAdd, Nat.reduceSub, Nat.reduceMul, Nat.reduceMod, Nat.reduceDiv, Nat.reduceBEq, RH, e_h1, h2', h4'', h4', h6'', h6', e_h7, FF, LN, NN, NT]
            · have h6' := decide_eq_false h6
              have h6'' : decide ((wk .u64 ((shlk .u64 (wk .u64 (wk .i64 ((wk .i64 (x3 + (imax (wk .i64 (x6 - 24)) (wk .i64 ((-149) - x3))))) + 149))) 23) + x11)) < 2139095040) = true := decide_eq_true (by omega)
              conv => arg 1; simp (maxSteps := 1000000) (disch := first | assumption | decide | with_unfolding_all rfl | omega | (simp only [LN] <;> omega) | (simp only [RO, OF])) only [RR, RM, LN, TT, d65_at, ↓reduceIte, Nat.reduceEqDiff, Nat.reduceLT, Nat.reduceLeDiff, Nat.reduceAdd, Nat.reduceSub, Nat.reduceMul, Nat.reduceMod, Nat.reduceDiv, Nat.reduceBEq, RH, e_h1, h2', h4'', h4', h6'', h6']
              refine J.eq ret_seq ?_
              refine J.bind fun x15 h8 => ?_
              have e_h8 := H66_0 _ _ h8
              try simp only [NN, NT, LN] at e_h8
              refine J.some ?_
              simp (maxSteps := 20000000) (disch := first | assumption | decide | with_unfolding_all rfl | omega | (simp only [LN] <;> omega) | (simp only [RO, OF])) only [RR, RM, LN, TT, d65_at, ↓reduceIte, Nat.reduceEqDiff, Nat.reduceLT, Nat.reduceLeDiff, Nat.reduceAdd, Nat.reduceSub, Nat.reduceMul, Nat.reduceMod, Nat.reduceDiv, Nat.reduceBEq, RH, e_h1, h2', h4'', h4', h6'', h6', e_h8, FF, LN, NN, NT]
      · conv => arg 1; simp (maxSteps := 1000000) (disch := first | assumption | decide | with_unfolding_all rfl | omega | (simp only [LN] <;> omega) | (simp only [RO, OF])) only [RR, RM, LN, TT, d65_at, ↓reduceIte, Nat.reduceEqDiff, Nat.reduceLT, Nat.reduceLeDiff, Nat.reduceAdd, Nat.reduceSub, Nat.reduceMul, Nat.reduceMod, Nat.reduceDiv, Nat.reduceBEq, RH, e_h1]
        refine J.eq go_seq ?_
        conv => arg 1; simp (maxSteps := 1000000) (disch := first | assumption | decide | with_unfolding_all rfl | omega | (simp only [LN] <;> omega) | (simp only [RO, OF])) only [RR, RM, LN, TT, d65_at, ↓reduceIte, Nat.reduceEqDiff, Nat.reduceLT, Nat.reduceLeDiff, Nat.reduceAdd, Nat.reduceSub, Nat.reduceMul, Nat.reduceMod, Nat.reduceDiv, Nat.reduceBEq, RH, e_h1]
        refine J.ite (fun h9 => ?_) (fun h9 => ?_)
        · have h9' := decide_eq_true h9
          conv => arg 1; simp (maxSteps := 1000000) (disch := first | assumption | decide | with_unfolding_all rfl | omega | (simp only [LN] <;> omega) | (simp only [RO, OF])) only [RR, RM, LN, TT, d65_at, ↓reduceIte, Nat.reduceEqDiff, Nat.reduceLT, Nat.reduceLeDiff, Nat.reduceAdd, Nat.reduceSub, Nat.reduceMul, Nat.reduceMod, Nat.reduceDiv, Nat.reduceBEq, RH, e_h1, h9']
          refine J.eq ret_seq ?_
          conv => arg 1; simp (maxSteps := 1000000) (disch := first | assumption | decide | with_unfolding_all rfl | omega | (simp only [LN] <;> omega) | (simp only [RO, OF])) only [RR, RM, LN, TT, d65_at, ↓reduceIte, Nat.reduceEqDiff, Nat.reduceLT, Nat.reduceLeDiff, Nat.reduceAdd, Nat.reduceSub, Nat.reduceMul, Nat.reduceMod, Nat.reduceDiv, Nat.reduceBEq, RH, e_h1, h9']
          refine J.eq go_seq ?_
          conv => arg 1; simp (maxSteps := 1000000) (disch := first | assumption | decide | with_unfolding_all rfl | omega | (simp only [LN] <;> omega) | (simp only [RO, OF])) only [RR, RM, LN, TT, d65_at, ↓reduceIte, Nat.reduceEqDiff, Nat.reduceLT, Nat.reduceLeDiff, Nat.reduceAdd, Nat.reduceSub, Nat.reduceMul, Nat.reduceMod, Nat.reduceDiv, Nat.reduceBEq, RH, e_h1, h9']
          refine J.ite (fun h10 => ?_) (fun h10 => ?_)
          · have h10' : x10 = true := h10
            refine J.bind fun x16 h11 => ?_
            have e_h11 := H130_0 _ _ _ h11
            try simp only [NN, NT, LN] at e_h11
            conv => arg 1; simp (maxSteps := 1000000) (disch := first | assumption | decide | with_unfolding_all rfl | omega | (simp only [LN] <;> omega) | (simp only [RO, OF])) only [RR, RM, LN, TT, d65_at, ↓reduceIte, Nat.reduceEqDiff, Nat.reduceLT, Nat.reduceLeDiff, Nat.reduceAdd, Nat.reduceSub, Nat.reduceMul, Nat.reduceMod, Nat.reduceDiv, Nat.reduceBEq, RH, e_h1, h9', h10', e_h11]
            refine J.eq ret_seq ?_
            conv => arg 1; simp (maxSteps := 1000000) (disch := first | assumption | decide | with_unfolding_all rfl | omega | (simp only [LN] <;> omega) | (simp only [RO, OF])) only [RR, RM, LN, TT, d65_at, ↓reduceIte, Nat.reduceEqDiff, Nat.reduceLT, Nat.reduceLeDiff, Nat.reduceAdd, Nat.reduceSub, Nat.reduceMul, Nat.reduceMod, Nat.reduceDiv, Nat.reduceBEq, RH, e_h1, h9', h10', e_h11]
            refine J.ite (fun h12 => ?_) (fun h12 => ?_)
            · have h12' : x16 = true := h12
              conv => arg 1; simp (maxSteps := 1000000) (disch := first | assumption | decide | with_unfolding_all rfl | omega | (simp only [LN] <;> omega) | (simp only [RO, OF])) only [RR, RM, LN, TT, d65_at, ↓reduceIte, Nat.reduceEqDiff, Nat.reduceLT, Nat.reduceLeDiff, Nat.reduceAdd, Nat.reduceSub, Nat.reduceMul, Nat.reduceMod, Nat.reduceDiv, Nat.reduceBEq, RH, e_h1, h9', h10', e_h11, h12']
              refine J.jmp (t := wk .u64 (x7 + 1)) hj3 ?_ ?_
              · first | rfl | (simp only [LN, NN, NT])
              · first | (simp (disch := first | assumption | decide | with_unfolding_all rfl | omega | (simp only [LN] <;> omega) | (simp only [RO, OF])) only [RR, ↓reduceIte, Nat.reduceEqDiff, Nat.reduceLT, Nat.reduceLeDiff, Nat.reduceAdd, Nat.reduceSub, Nat.reduceMul, Nat.reduceMod, Nat.reduceDiv, Nat.reduceBEq, LN, NN, NT]; done) | (simp (disch := first | assumption | decide | with_unfolding_all rfl | omega | (simp only [LN] <;> omega) | (simp only [RO, OF])) only [RR, ↓reduceIte, Nat.reduceEqDiff, Nat.reduceLT, Nat.reduceLeDiff, Nat.reduceAdd, Nat.reduceSub, Nat.reduceMul, Nat.reduceMod, Nat.reduceDiv, Nat.reduceBEq, LN, fm_app, NN, NT]; done) | rfl
            · have h12' : x16 = false := Bool.eq_false_iff.2 h12
              conv => arg 1; simp (maxSteps := 1000000) (disch := first | assumption | decide | with_unfolding_all rfl | omega | (simp only [LN] <;> omega) | (simp only [RO, OF])) only [RR, RM, LN, TT, d65_at, ↓reduceIte, Nat.reduceEqDiff, Nat.reduceLT, Nat.reduceLeDiff, Nat.reduceAdd, Nat.reduceSub, Nat.reduceMul, Nat.reduceMod, Nat.reduceDiv, Nat.reduceBEq, RH, e_h1, h9', h10', e_h11, h12']
              refine J.jmp (t := x7) hj3 ?_ ?_
              · first | rfl | (simp only [LN, NN, NT])
              · first | (simp (disch := first | assumption | decide | with_unfolding_all rfl | omega | (simp only [LN] <;> omega) | (simp only [RO, OF])) only [RR, ↓reduceIte, Nat.reduceEqDiff, Nat.reduceLT, Nat.reduceLeDiff, Nat.reduceAdd, Nat.reduceSub, Nat.reduceMul, Nat.reduceMod, Nat.reduceDiv, Nat.reduceBEq, LN, NN, NT]; done) | (simp (disch := first | assumption | decide | with_unfolding_all rfl | omega | (simp only [LN] <;> omega) | (simp only [RO, OF])) only [RR, ↓reduceIte, Nat.reduceEqDiff, Nat.reduceLT, Nat.reduceLeDiff, Nat.reduceAdd, Nat.reduceSub, Nat.reduceMul, Nat.reduceMod, Nat.reduceDiv, Nat.reduceBEq, LN, fm_app, NN, NT]; done) | rfl
          · have h10' : x10 = false := Bool.eq_false_iff.2 h10
            conv => arg 1; simp (maxSteps := 1000000) (disch := first | assumption | decide | with_unfolding_all rfl | omega | (simp only [LN] <;> omega) | (simp only [RO, OF])) only [RR, RM, LN, TT, d65_at, ↓reduceIte, Nat.reduceEqDiff, Nat.reduceLT, Nat.reduceLeDiff, Nat.reduceAdd, Nat.reduceSub, Nat.reduceMul, Nat.reduceMod, Nat.reduceDiv, Nat.reduceBEq, RH, e_h1, h9', h10']
            refine J.eq ret_seq ?_
            conv => arg 1; simp (maxSteps := 1000000) (disch := first | assumption | decide | with_unfolding_all rfl | omega | (simp only [LN] <;> omega) | (simp only [RO, OF])) only [RR, RM, LN, TT, d65_at, ↓reduceIte, Nat.reduceEqDiff, Nat.reduceLT, Nat.reduceLeDiff, Nat.reduceAdd, Nat.reduceSub, Nat.reduceMul, Nat.reduceMod, Nat.reduceDiv, Nat.reduceBEq, RH, e_h1, h9', h10']
            refine J.jmp (t := x7) hj3 ?_ ?_
            · first | rfl | (simp only [LN, NN, NT])
            · first | (simp (disch := first | assumption | decide | with_unfolding_all rfl | omega | (simp only [LN] <;> omega) | (simp only [RO, OF])) only [RR, ↓reduceIte, Nat.reduceEqDiff, Nat.reduceLT, Nat.reduceLeDiff, Nat.reduceAdd, Nat.reduceSub, Nat.reduceMul, Nat.reduceMod, Nat.reduceDiv, Nat.reduceBEq, LN, NN, NT]; done) | (simp (disch := first | assumption | decide | with_unfolding_all rfl | omega | (simp only [LN] <;> omega) | (simp only [RO, OF])) only [RR, ↓reduceIte, Nat.reduceEqDiff, Nat.reduceLT, Nat.reduceLeDiff, Nat.reduceAdd, Nat.reduceSub, Nat.reduceMul, Nat.reduceMod, Nat.reduceDiv, Nat.reduceBEq, LN, fm_app, NN, NT]; done) | rfl
        · have h9' := decide_eq_false h9
          conv => arg 1; simp (maxSteps := 1000000) (disch := first | assumption | decide | with_unfolding_all rfl | omega | (simp only [LN] <;> omega) | (simp only [RO, OF])) only [RR, RM, LN, TT, d65_at, ↓reduceIte, Nat.reduceEqDiff, Nat.reduceLT, Nat.reduceLeDiff, Nat.reduceAdd, Nat.reduceSub, Nat.reduceMul, Nat.reduceMod, Nat.reduceDiv, Nat.reduceBEq, RH, e_h1, h9']
          refine J.eq ret_seq ?_
          conv => arg 1; simp (maxSteps := 1000000) (disch := first | assumption | decide | with_unfolding_all rfl | omega | (simp only [LN] <;> omega) | (simp only [RO, OF])) only [RR, RM, LN, TT, d65_at, ↓reduceIte, Nat.reduceEqDiff, Nat.reduceLT, Nat.reduceLeDiff, Nat.reduceAdd, Nat.reduceSub, Nat.reduceMul, Nat.reduceMod, Nat.reduceDiv, Nat.reduceBEq, RH, e_h1, h9']
          refine J.ite (fun h13 => ?_) (fun h13 => ?_)
          · have h13' := decide_eq_true h13
            conv => arg 1; simp (maxSteps := 1000000) (disch := first | assumption | decide | with_unfolding_all rfl | omega | (simp only [LN] <;> omega) | (simp only [RO, OF])) only [RR, RM, LN, TT, d65_at, ↓reduceIte, Nat.reduceEqDiff, Nat.reduceLT, Nat.reduceLeDiff, Nat.reduceAdd, Nat.reduceSub, Nat.reduceMul, Nat.reduceMod, Nat.reduceDiv, Nat.reduceBEq, RH, e_h1, h9', h13']
            refine J.eq go_seq ?_
            conv => arg 1; simp (maxSteps := 1000000) (disch := first | assumption | decide | with_unfolding_all rfl | omega | (simp only [LN] <;> omega) | (simp only [RO, OF])) only [RR, RM, LN, TT, d65_at, ↓reduceIte, Nat.reduceEqDiff, Nat.reduceLT, Nat.reduceLeDiff, Nat.reduceAdd, Nat.reduceSub, Nat.reduceMul, Nat.reduceMod, Nat.reduceDiv, Nat.reduceBEq, RH, e_h1, h9', h13']
            refine J.ite (fun h14 => ?_) (fun h14 => ?_)
            · have h14' : x10 = true := h14
              refine J.bind fun x17 h15 => ?_
              have e_h15 := H130_0 _ _ _ h15
              try simp only [NN, NT, LN] at e_h15
              conv => arg 1; simp (maxSteps := 1000000) (disch := first | assumption | decide | with_unfolding_all rfl | omega | (simp only [LN] <;> omega) | (simp only [RO, OF])) only [RR, RM, LN, TT, d65_at, ↓reduceIte, Nat.reduceEqDiff, Nat.reduceLT, Nat.reduceLeDiff, Nat.reduceAdd, Nat.reduceSub, Nat.reduceMul, Nat.reduceMod, Nat.reduceDiv, Nat.reduceBEq, RH, e_h1, h9', h13', h14', e_h15]
              refine J.eq ret_seq ?_
              conv => arg 1; simp (maxSteps := 1000000) (disch := first | assumption | decide | with_unfolding_all rfl | omega | (simp only [LN] <;> omega) | (simp only [RO, OF])) only [RR, RM, LN, TT, d65_at, ↓reduceIte, Nat.reduceEqDiff, Nat.reduceLT, Nat.reduceLeDiff, Nat.reduceAdd, Nat.reduceSub, Nat.reduceMul, Nat.reduceMod, Nat.reduceDiv, Nat.reduceBEq, RH, e_h1, h9', h13', h14', e_h15]
              refine J.ite (fun h16 => ?_) (fun h16 => ?_)
              · have h16' : x17 = true := h16
                conv => arg 1; simp (maxSteps := 1000000) (disch := first | assumption | decide | with_unfolding_all rfl | omega | (simp only [LN] <;> omega) | (simp only [RO, OF])) only [RR, RM, LN, TT, d65_at, ↓reduceIte, Nat.reduceEqDiff, Nat.reduceLT, Nat.reduceLeDiff, Nat.reduceAdd, Nat.reduceSub, Nat.reduceMul, Nat.reduceMod, Nat.reduceDiv, Nat.reduceBEq, RH, e_h1, h9', h13', h14', e_h15, h16']
                refine J.jmp (t := wk .u64 (x7 + 1)) hj3 ?_ ?_
                · first | rfl | (simp only [LN, NN, NT])
                · first | (simp (disch := first | assumption | decide | with_unfolding_all rfl | omega | (simp only [LN] <;> omega) | (simp only [RO, OF])) only [RR, ↓reduceIte, Nat.reduceEqDiff, Nat.reduceLT, Nat.reduceLeDiff, Nat.reduceAdd, Nat.reduceSub, Nat.reduceMul, Nat.reduceMod, Nat.reduceDiv, Nat.reduceBEq, LN, NN, NT]; done) | (simp (disch := first | assumption | decide | with_unfolding_all rfl | omega | (simp only [LN] <;> omega) | (simp only [RO, OF])) only [RR, ↓reduceIte, Nat.reduceEqDiff, Nat.reduceLT, Nat.reduceLeDiff, Nat.reduceAdd, Nat.reduceSub, Nat.reduceMul, Nat.reduceMod, Nat.reduceDiv, Nat.reduceBEq, LN, fm_app, NN, NT]; done) | rfl
              · have h16' : x17 = false := Bool.eq_false_iff.2 h16
                conv => arg 1; simp (maxSteps := 1000000) (disch := first | assumption | decide | with_unfolding_all rfl | omega | (simp only [LN] <;> omega) | (simp only [RO, OF])) only [RR, RM, LN, TT, d65_at, ↓reduceIte, Nat.reduceEqDiff, Nat.reduceLT, Nat.reduceLeDiff, Nat.reduceAdd, Nat.reduceSub, Nat.reduceMul, Nat.reduceMod, Nat.reduceDiv, Nat.reduceBEq, RH, e_h1, h9', h13', h14', e_h15, h16']
                refine J.jmp (t := x7) hj3 ?_ ?_
                · first | rfl | (simp only [LN, NN, NT])
                · first | (simp (disch := first | assumption | decide | with_unfolding_all rfl | omega | (simp only [LN] <;> omega) | (simp only [RO, OF])) only [RR, ↓reduceIte, Nat.reduceEqDiff, Nat.reduceLT, Nat.reduceLeDiff, Nat.reduceAdd, Nat.reduceSub, Nat.reduceMul, Nat.reduceMod, Nat.reduceDiv, Nat.reduceBEq, LN, NN, NT]; done) | (simp (disch := first | assumption | decide | with_unfolding_all rfl | omega | (simp only [LN] <;> omega) | (simp only [RO, OF])) only [RR, ↓reduceIte, Nat.reduceEqDiff, Nat.reduceLT, Nat.reduceLeDiff, Nat.reduceAdd, Nat.reduceSub, Nat.reduceMul, Nat.reduceMod, Nat.reduceDiv, Nat.reduceBEq, LN, fm_app, NN, NT]; done) | rfl
            · have h14' : x10 = false := Bool.eq_false_iff.2 h14
              conv => arg 1; simp (maxSteps := 1000000) (disch := first | assumption | decide | with_unfolding_all rfl | omega | (simp only [LN] <;> omega) | (simp only [RO, OF])) only [RR, RM, LN, TT, d65_at, ↓reduceIte, Nat.reduceEqDiff, Nat.reduceLT, Nat.reduceLeDiff, Nat.reduceAdd, Nat.reduceSub, Nat.reduceMul, Nat.reduceMod, Nat.reduceDiv, Nat.reduceBEq, RH, e_h1, h9', h13', h14']
              refine J.eq ret_seq ?_
              conv => arg 1; simp (maxSteps := 1000000) (disch := first | assumption | decide | with_unfolding_all rfl | omega | (simp only [LN] <;> omega) | (simp only [RO, OF])) only [RR, RM, LN, TT, d65_at, ↓reduceIte, Nat.reduceEqDiff, Nat.reduceLT, Nat.reduceLeDiff, Nat.reduceAdd, Nat.reduceSub, Nat.reduceMul, Nat.reduceMod, Nat.reduceDiv, Nat.reduceBEq, RH, e_h1, h9', h13', h14']
              refine J.jmp (t := x7) hj3 ?_ ?_
              · first | rfl | (simp only [LN, NN, NT])
              · first | (simp (disch := first | assumption | decide | with_unfolding_all rfl | omega | (simp only [LN] <;> omega) | (simp only [RO, OF])) only [RR, ↓reduceIte, Nat.reduceEqDiff, Nat.reduceLT, Nat.reduceLeDiff, Nat.reduceAdd, Nat.reduceSub, Nat.reduceMul, Nat.reduceMod, Nat.reduceDiv, Nat.reduceBEq, LN, NN, NT]; done) | (simp (disch := first | assumption | decide | with_unfolding_all rfl | omega | (simp only [LN] <;> omega) | (simp only [RO, OF])) only [RR, ↓reduceIte, Nat.reduceEqDiff, Nat.reduceLT, Nat.reduceLeDiff, Nat.reduceAdd, Nat.reduceSub, Nat.reduceMul, Nat.reduceMod, Nat.reduceDiv, Nat.reduceBEq, LN, fm_app, NN, NT]; done) | rfl
          · have h13' := decide_eq_false h13
            conv => arg 1; simp (maxSteps := 1000000) (disch := first | assumption | decide | with_unfolding_all rfl | omega | (simp only [LN] <;> omega) | (simp only [RO, OF])) only [RR, RM, LN, TT, d65_at, ↓reduceIte, Nat.reduceEqDiff, Nat.reduceLT, Nat.reduceLeDiff, Nat.reduceAdd, Nat.reduceSub, Nat.reduceMul, Nat.reduceMod, Nat.reduceDiv, Nat.reduceBEq, RH, e_h1, h9', h13']
            refine J.eq go_seq ?_
            conv => arg 1; simp (maxSteps := 1000000) (disch := first | assumption | decide | with_unfolding_all rfl | omega | (simp only [LN] <;> omega) | (simp only [RO, OF])) only [RR, RM, LN, TT, d65_at, ↓reduceIte, Nat.reduceEqDiff, Nat.reduceLT, Nat.reduceLeDiff, Nat.reduceAdd, Nat.reduceSub, Nat.reduceMul, Nat.reduceMod, Nat.reduceDiv, Nat.reduceBEq, RH, e_h1, h9', h13']
            refine J.ite (fun h17 => ?_) (fun h17 => ?_)
            · have h17' : x8 = true := h17
              conv => arg 1; simp (maxSteps := 1000000) (disch := first | assumption | decide | with_unfolding_all rfl | omega | (simp only [LN] <;> omega) | (simp only [RO, OF])) only [RR, RM, LN, TT, d65_at, ↓reduceIte, Nat.reduceEqDiff, Nat.reduceLT, Nat.reduceLeDiff, Nat.reduceAdd, Nat.reduceSub, Nat.reduceMul, Nat.reduceMod, Nat.reduceDiv, Nat.reduceBEq, RH, e_h1, h9', h13', h17']
              refine J.eq ret_seq ?_
              conv => arg 1; simp (maxSteps := 1000000) (disch := first | assumption | decide | with_unfolding_all rfl | omega | (simp only [LN] <;> omega) | (simp only [RO, OF])) only [RR, RM, LN, TT, d65_at, ↓reduceIte, Nat.reduceEqDiff, Nat.reduceLT, Nat.reduceLeDiff, Nat.reduceAdd, Nat.reduceSub, Nat.reduceMul, Nat.reduceMod, Nat.reduceDiv, Nat.reduceBEq, RH, e_h1, h9', h13', h17']
              refine J.jmp (t := wk .u64 (x7 + 1)) hj3 ?_ ?_
              · first | rfl | (simp only [LN, NN, NT])
              · first | (simp (disch := first | assumption | decide | with_unfolding_all rfl | omega | (simp only [LN] <;> omega) | (simp only [RO, OF])) only [RR, ↓reduceIte, Nat.reduceEqDiff, Nat.reduceLT, Nat.reduceLeDiff, Nat.reduceAdd, Nat.reduceSub, Nat.reduceMul, Nat.reduceMod, Nat.reduceDiv, Nat.reduceBEq, LN, NN, NT]; done) | (simp (disch := first | assumption | decide | with_unfolding_all rfl | omega | (simp only [LN] <;> omega) | (simp only [RO, OF])) only [RR, ↓reduceIte, Nat.reduceEqDiff, Nat.reduceLT, Nat.reduceLeDiff, Nat.reduceAdd, Nat.reduceSub, Nat.reduceMul, Nat.reduceMod, Nat.reduceDiv, Nat.reduceBEq, LN, fm_app, NN, NT]; done) | rfl
            · have h17' : x8 = false := Bool.eq_false_iff.2 h17
              conv => arg 1; simp (maxSteps := 1000000) (disch := first | assumption | decide | with_unfolding_all rfl | omega | (simp only [LN] <;> omega) | (simp only [RO, OF])) only [RR, RM, LN, TT, d65_at, ↓reduceIte, Nat.reduceEqDiff, Nat.reduceLT, Nat.reduceLeDiff, Nat.reduceAdd, Nat.reduceSub, Nat.reduceMul, Nat.reduceMod, Nat.reduceDiv, Nat.reduceBEq, RH, e_h1, h9', h13', h17']
              refine J.ite (fun h18 => ?_) (fun h18 => ?_)
              · have h18' : x9 = true := h18
                conv => arg 1; simp (maxSteps := 1000000) (disch := first | assumption | decide | with_unfolding_all rfl | omega | (simp only [LN] <;> omega) | (simp only [RO, OF])) only [RR, RM, LN, TT, d65_at, ↓reduceIte, Nat.reduceEqDiff, Nat.reduceLT, Nat.reduceLeDiff, Nat.reduceAdd, Nat.reduceSub, Nat.reduceMul, Nat.reduceMod, Nat.reduceDiv, Nat.reduceBEq, RH, e_h1, h9', h13', h17', h18']
                refine J.eq ret_seq ?_
                conv => arg 1; simp (maxSteps := 1000000) (disch := first | assumption | decide | with_unfolding_all rfl | omega | (simp only [LN] <;> omega) | (simp only [RO, OF])) only [RR, RM, LN, TT, d65_at, ↓reduceIte, Nat.reduceEqDiff, Nat.reduceLT, Nat.reduceLeDiff, Nat.reduceAdd, Nat.reduceSub, Nat.reduceMul, Nat.reduceMod, Nat.reduceDiv, Nat.reduceBEq, RH, e_h1, h9', h13', h17', h18']
                refine J.ite (fun h19 => ?_) (fun h19 => ?_)
                · have h19' := decide_eq_true h19
                  conv => arg 1; simp (maxSteps := 1000000) (disch := first | assumption | decide | with_unfolding_all rfl | omega | (simp only [LN] <;> omega) | (simp only [RO, OF])) only [RR, RM, LN, TT, d65_at, ↓reduceIte, Nat.reduceEqDiff, Nat.reduceLT, Nat.reduceLeDiff, Nat.reduceAdd, Nat.reduceSub, Nat.reduceMul, Nat.reduceMod, Nat.reduceDiv, Nat.reduceBEq, RH, e_h1, h9', h13', h17', h18', h19']
                  refine J.jmp (t := wk .u64 (x7 + 1)) hj3 ?_ ?_
                  · first | rfl | (simp only [LN, NN, NT])
                  · first | (simp (disch := first | assumption | decide | with_unfolding_all rfl | omega | (simp only [LN] <;> omega) | (simp only [RO, OF])) only [RR, ↓reduceIte, Nat.reduceEqDiff, Nat.reduceLT, Nat.reduceLeDiff, Nat.reduceAdd, Nat.reduceSub, Nat.reduceMul, Nat.reduceMod, Nat.reduceDiv, Nat.reduceBEq, LN, NN, NT]; done) | (simp (disch := first | assumption | decide | with_unfolding_all rfl | omega | (simp only [LN] <;> omega) | (simp only [RO, OF])) only [RR, ↓reduceIte, Nat.reduceEqDiff, Nat.reduceLT, Nat.reduceLeDiff, Nat.reduceAdd, Nat.reduceSub, Nat.reduceMul, Nat.reduceMod, Nat.reduceDiv, Nat.reduceBEq, LN, fm_app, NN, NT]; done) | rfl
                · have h19' := decide_eq_false h19
                  conv => arg 1; simp (maxSteps := 1000000) (disch := first | assumption | decide | with_unfolding_all rfl | omega | (simp only [LN] <;> omega) | (simp only [RO, OF])) only [RR, RM, LN, TT, d65_at, ↓reduceIte, Nat.reduceEqDiff, Nat.reduceLT, Nat.reduceLeDiff, Nat.reduceAdd, Nat.reduceSub, Nat.reduceMul, Nat.reduceMod, Nat.reduceDiv, Nat.reduceBEq, RH, e_h1, h9', h13', h17', h18', h19']
                  refine J.jmp (t := x7) hj3 ?_ ?_
                  · first | rfl | (simp only [LN, NN, NT])
                  · first | (simp (disch := first | assumption | decide | with_unfolding_all rfl | omega | (simp only [LN] <;> omega) | (simp only [RO, OF])) only [RR, ↓reduceIte, Nat.reduceEqDiff, Nat.reduceLT, Nat.reduceLeDiff, Nat.reduceAdd, Nat.reduceSub, Nat.reduceMul, Nat.reduceMod, Nat.reduceDiv, Nat.reduceBEq, LN, NN, NT]; done) | (simp (disch := first | assumption | decide | with_unfolding_all rfl | omega | (simp only [LN] <;> omega) | (simp only [RO, OF])) only [RR, ↓reduceIte, Nat.reduceEqDiff, Nat.reduceLT, Nat.reduceLeDiff, Nat.reduceAdd, Nat.reduceSub, Nat.reduceMul, Nat.reduceMod, Nat.reduceDiv, Nat.reduceBEq, LN, fm_app, NN, NT]; done) | rfl
              · have h18' : x9 = false := Bool.eq_false_iff.2 h18
                conv => arg 1; simp (maxSteps := 1000000) (disch := first | assumption | decide | with_unfolding_all rfl | omega | (simp only [LN] <;> omega) | (simp only [RO, OF])) only [RR, RM, LN, TT, d65_at, ↓reduceIte, Nat.reduceEqDiff, Nat.reduceLT, Nat.reduceLeDiff, Nat.reduceAdd, Nat.reduceSub, Nat.reduceMul, Nat.reduceMod, Nat.reduceDiv, Nat.reduceBEq, RH, e_h1, h9', h13', h17', h18']
                refine J.eq ret_seq ?_
                conv => arg 1; simp (maxSteps := 1000000) (disch := first | assumption | decide | with_unfolding_all rfl | omega | (simp only [LN] <;> omega) | (simp only [RO, OF])) only [RR, RM, LN, TT, d65_at, ↓reduceIte, Nat.reduceEqDiff, Nat.reduceLT, Nat.reduceLeDiff, Nat.reduceAdd, Nat.reduceSub, Nat.reduceMul, Nat.reduceMod, Nat.reduceDiv, Nat.reduceBEq, RH, e_h1, h9', h13', h17', h18']
                refine J.jmp (t := x7) hj3 ?_ ?_
                · first | rfl | (simp only [LN, NN, NT])
                · first | (simp (disch := first | assumption | decide | with_unfolding_all rfl | omega | (simp only [LN] <;> omega) | (simp only [RO, OF])) only [RR, ↓reduceIte, Nat.reduceEqDiff, Nat.reduceLT, Nat.reduceLeDiff, Nat.reduceAdd, Nat.reduceSub, Nat.reduceMul, Nat.reduceMod, Nat.reduceDiv, Nat.reduceBEq, LN, NN, NT]; done) | (simp (disch := first | assumption | decide | with_unfolding_all rfl | omega | (simp only [LN] <;> omega) | (simp only [RO, OF])) only [RR, ↓reduceIte, Nat.reduceEqDiff, Nat.reduceLT, Nat.reduceLeDiff, Nat.reduceAdd, Nat.reduceSub, Nat.reduceMul, Nat.reduceMod, Nat.reduceDiv, Nat.reduceBEq, LN, fm_app, NN, NT]; done) | rfl
    · conv => arg 1; simp (maxSteps := 1000000) (disch := first | assumption | decide | with_unfolding_all rfl | omega | (simp only [LN] <;> omega) | (simp only [RO, OF])) only [RR, RM, LN, TT, d65_at, ↓reduceIte, Nat.reduceEqDiff, Nat.reduceLT, Nat.reduceLeDiff, Nat.reduceAdd, Nat.reduceSub, Nat.reduceMul, Nat.reduceMod, Nat.reduceDiv, Nat.reduceBEq, RH, e_h1]
      refine J.ite (fun h20 => ?_) (fun h20 => ?_)
      · have h20' := decide_eq_true h20
        have h20'' : decide (0 < (imax (wk .i64 (x6 - 24)) (wk .i64 ((-149) - x3)))) = false := decide_eq_false (by omega)
        refine J.chk fun h21 => ?_
        conv => arg 1; simp (maxSteps := 1000000) (disch := first | assumption | decide | with_unfolding_all rfl | omega | (simp only [LN] <;> omega) | (simp only [RO, OF])) only [RR, RM, LN, TT, d65_at, ↓reduceIte, Nat.reduceEqDiff, Nat.reduceLT, Nat.reduceLeDiff, Nat.reduceAdd, Nat.reduceSub, Nat.reduceMul, Nat.reduceMod, Nat.reduceDiv, Nat.reduceBEq, RH, e_h1, h20'', h20']
        refine J.jmp (t := (shlk .u64 x4 (wk .i64 (0 - (imax (wk .i64 (x6 - 24)) (wk .i64 ((-149) - x3))))), false, false, x5)) hj2 ?_ ?_
        · first | rfl | (simp only [LN, NN, NT])
        · first | (simp (disch := first | assumption | decide | with_unfolding_all rfl | omega | (simp only [LN] <;> omega) | (simp only [RO, OF])) only [RR, ↓reduceIte, Nat.reduceEqDiff, Nat.reduceLT, Nat.reduceLeDiff, Nat.reduceAdd, Nat.reduceSub, Nat.reduceMul, Nat.reduceMod, Nat.reduceDiv, Nat.reduceBEq, LN, NN, NT]; done) | (simp (disch := first | assumption | decide | with_unfolding_all rfl | omega | (simp only [LN] <;> omega) | (simp only [RO, OF])) only [RR, ↓reduceIte, Nat.reduceEqDiff, Nat.reduceLT, Nat.reduceLeDiff, Nat.reduceAdd, Nat.reduceSub, Nat.reduceMul, Nat.reduceMod, Nat.reduceDiv, Nat.reduceBEq, LN, fm_app, NN, NT]; done) | rfl
      · have h20' := decide_eq_false h20
        have h20'' : decide (0 < (imax (wk .i64 (x6 - 24)) (wk .i64 ((-149) - x3)))) = true := decide_eq_true (by omega)
        conv => arg 1; simp (maxSteps := 1000000) (disch := first | assumption | decide | with_unfolding_all rfl | omega | (simp only [LN] <;> omega) | (simp only [RO, OF])) only [RR, RM, LN, TT, d65_at, ↓reduceIte, Nat.reduceEqDiff, Nat.reduceLT, Nat.reduceLeDiff, Nat.reduceAdd, Nat.reduceSub, Nat.reduceMul, Nat.reduceMod, Nat.reduceDiv, Nat.reduceBEq, RH, e_h1, h20'', h20']
        refine J.ite (fun h22 => ?_) (fun h22 => ?_)
        · have h22' := decide_eq_true h22
          have h22'' : decide ((imax (wk .i64 (x6 - 24)) (wk .i64 ((-149) - x3))) ≤ x6) = false := decide_eq_false (by omega)
          conv => arg 1; simp (maxSteps := 1000000) (disch := first | assumption | decide | with_unfolding_all rfl | omega | (simp only [LN] <;> omega) | (simp only [RO, OF])) only [RR, RM, LN, TT, d65_at, ↓reduceIte, Nat.reduceEqDiff, Nat.reduceLT, Nat.reduceLeDiff, Nat.reduceAdd, Nat.reduceSub, Nat.reduceMul, Nat.reduceMod, Nat.reduceDiv, Nat.reduceBEq, RH, e_h1, h20'', h20', h22'', h22']
          refine J.jmp (t := (0, false, false, true)) hj2 ?_ ?_
          · first | rfl | (simp only [LN, NN, NT])
          · first | (simp (disch := first | assumption | decide | with_unfolding_all rfl | omega | (simp only [LN] <;> omega) | (simp only [RO, OF])) only [RR, ↓reduceIte, Nat.reduceEqDiff, Nat.reduceLT, Nat.reduceLeDiff, Nat.reduceAdd, Nat.reduceSub, Nat.reduceMul, Nat.reduceMod, Nat.reduceDiv, Nat.reduceBEq, LN, NN, NT]; done) | (simp (disch := first | assumption | decide | with_unfolding_all rfl | omega | (simp only [LN] <;> omega) | (simp only [RO, OF])) only [RR, ↓reduceIte, Nat.reduceEqDiff, Nat.reduceLT, Nat.reduceLeDiff, Nat.reduceAdd, Nat.reduceSub, Nat.reduceMul, Nat.reduceMod, Nat.reduceDiv, Nat.reduceBEq, LN, fm_app, NN, NT]; done) | rfl
        · have h22' := decide_eq_false h22
          have h22'' : decide ((imax (wk .i64 (x6 - 24)) (wk .i64 ((-149) - x3))) ≤ x6) = true := decide_eq_true (by omega)
          refine J.chk fun h23 => ?_
          refine J.chk fun h24 => ?_
          conv => arg 1; simp (maxSteps := 1000000) (disch := first | assumption | decide | with_unfolding_all rfl | omega | (simp only [LN] <;> omega) | (simp only [RO, OF])) only [RR, RM, LN, TT, d65_at, ↓reduceIte, Nat.reduceEqDiff, Nat.reduceLT, Nat.reduceLeDiff, Nat.reduceAdd, Nat.reduceSub, Nat.reduceMul, Nat.reduceMod, Nat.reduceDiv, Nat.reduceBEq, RH, e_h1, h20'', h20', h22'', h22']
          refine J.joinS (fun (t : Bool) => ([(0, .v (.int .i64 x1)), (1, .v (.bool x2)), (2, .v (.int .i64 x3)), (3, .v (.int .u64 x4)), (4, .v (.bool x5)), (11, .v (.int .i64 x6)), (12, .v (.int .i64 (imax (wk .i64 (x6 - 24)) (wk .i64 ((-149) - x3))))), (13, .v (.int .u64 (shrk .u64 x4 (imax (wk .i64 (x6 - 24)) (wk .i64 ((-149) - x3)))))), (14, .v (.bool t)), (15, .v (.bool false)), (16, .v (.bool x5)), (17, .v (.int .u64 (band .u64 x4 (wk .u64 ((shlk .u64 1 (imax (wk .i64 (x6 - 24)) (wk .i64 ((-149) - x3)))) - 1))))), (18, .v (.int .u64 (shlk .u64 1 (wk .i64 ((imax (wk .i64 (x6 - 24)) (wk .i64 ((-149) - x3))) - 1)))))], [])) (fun t => soft_Round_k4 fu x1 x2 x3 x4 x5 x6 t) ?_ (fun hj4 => ?_)
          · rintro x18
            show J _ (soft_Round_k4 fu x1 x2 x3 x4 x5 x6 x18) _
            unfold soft_Round_k4
            refine J.eq go_seq ?_
            conv => arg 1; simp (maxSteps := 1000000) (disch := first | assumption | decide | with_unfolding_all rfl | omega | (simp only [LN] <;> omega) | (simp only [RO, OF])) only [RR, RM, LN, TT, d65_at, ↓reduceIte, Nat.reduceEqDiff, Nat.reduceLT, Nat.reduceLeDiff, Nat.reduceAdd, Nat.reduceSub, Nat.reduceMul, Nat.reduceMod, Nat.reduceDiv, Nat.reduceBEq, RH, e_h1, h20'', h20', h22'', h22']
            refine J.ite (fun h25 => ?_) (fun h25 => ?_)
            · have h25' := decide_eq_true h25
              conv => arg 1; simp (maxSteps := 1000000) (disch := first | assumption | decide | with_unfolding_all rfl | omega | (simp only [LN] <;> omega) | (simp only [RO, OF])) only [RR, RM, LN, TT, d65_at, ↓reduceIte, Nat.reduceEqDiff, Nat.reduceLT, Nat.reduceLeDiff, Nat.reduceAdd, Nat.reduceSub, Nat.reduceMul, Nat.reduceMod, Nat.reduceDiv, Nat.reduceBEq, RH, e_h1, h20'', h20', h22'', h22', h25']
              refine J.eq ret_seq ?_
              conv => arg 1; simp (maxSteps := 1000000) (disch := first | assumption | decide | with_unfolding_all rfl | omega | (simp only [LN] <;> omega) | (simp only [RO, OF])) only [RR, RM, LN, TT, d65_at, ↓reduceIte, Nat.reduceEqDiff, Nat.reduceLT, Nat.reduceLeDiff, Nat.reduceAdd, Nat.reduceSub, Nat.reduceMul, Nat.reduceMod, Nat.reduceDiv, Nat.reduceBEq, RH, e_h1, h20'', h20', h22'', h22', h25']
              refine J.ite (fun h26 => ?_) (fun h26 => ?_)
              · have h26' := decide_eq_true h26
                conv => arg 1; simp (maxSteps := 1000000) (disch := first | assumption | decide | with_unfolding_all rfl | omega | (simp only [LN] <;> omega) | (simp only [RO, OF])) only [RR, RM, LN, TT, d65_at, ↓reduceIte, Nat.reduceEqDiff, Nat.reduceLT, Nat.reduceLeDiff, Nat.reduceAdd, Nat.reduceSub, Nat.reduceMul, Nat.reduceMod, Nat.reduceDiv, Nat.reduceBEq, RH, e_h1, h20'', h20', h22'', h22', h25', h26']
                refine J.jmp (t := (shrk .u64 x4 (imax (wk .i64 (x6 - 24)) (wk .i64 ((-149) - x3))), x18, !x5, x5)) hj2 ?_ ?_
                · first | rfl | (simp only [LN, NN, NT])
                · first | (simp (disch := first | assumption | decide | with_unfolding_all rfl | omega | (simp only [LN] <;> omega) | (simp only [RO, OF])) only [RR, ↓reduceIte, Nat.reduceEqDiff, Nat.reduceLT, Nat.reduceLeDiff, Nat.reduceAdd, Nat.reduceSub, Nat.reduceMul, Nat.reduceMod, Nat.reduceDiv, Nat.reduceBEq, LN, NN, NT]; done) | (simp (disch := first | assumption | decide | with_unfolding_all rfl | omega | (simp only [LN] <;> omega) | (simp only [RO, OF])) only [RR, ↓reduceIte, Nat.reduceEqDiff, Nat.reduceLT, Nat.reduceLeDiff, Nat.reduceAdd, Nat.reduceSub, Nat.reduceMul, Nat.reduceMod, Nat.reduceDiv, Nat.reduceBEq, LN, fm_app, NN, NT]; done) | rfl
              · have h26' := decide_eq_false h26
                conv => arg 1; simp (maxSteps := 1000000) (disch := first | assumption | decide | with_unfolding_all rfl | omega | (simp only [LN] <;> omega) | (simp only [RO, OF])) only [RR, RM, LN, TT, d65_at, ↓reduceIte, Nat.reduceEqDiff, Nat.reduceLT, Nat.reduceLeDiff, Nat.reduceAdd, Nat.reduceSub, Nat.reduceMul, Nat.reduceMod, Nat.reduceDiv, Nat.reduceBEq, RH, e_h1, h20'', h20', h22'', h22', h25', h26']
                refine J.jmp (t := (shrk .u64 x4 (imax (wk .i64 (x6 - 24)) (wk .i64 ((-149) - x3))), x18, !x5, true)) hj2 ?_ ?_
                · first | rfl | (simp only [LN, NN, NT])
                · first | (simp (disch := first | assumption | decide | with_unfolding_all rfl | omega | (simp only [LN] <;> omega) | (simp only [RO, OF])) only [RR, ↓reduceIte, Nat.reduceEqDiff, Nat.reduceLT, Nat.reduceLeDiff, Nat.reduceAdd, Nat.reduceSub, Nat.reduceMul, Nat.reduceMod, Nat.reduceDiv, Nat.reduceBEq, LN, NN, NT]; done) | (simp (disch := first | assumption | decide | with_unfolding_all rfl | omega | (simp only [LN] <;> omega) | (simp only [RO, OF])) only [RR, ↓reduceIte, Nat.reduceEqDiff, Nat.reduceLT, Nat.reduceLeDiff, Nat.reduceAdd, Nat.reduceSub, Nat.reduceMul, Nat.reduceMod, Nat.reduceDiv, Nat.reduceBEq, LN, fm_app, NN, NT]; done) | rfl
            · have h25' := decide_eq_false h25
              conv => arg 1; simp (maxSteps := 1000000) (disch := first | assumption | decide | with_unfolding_all rfl | omega | (simp only [LN] <;> omega) | (simp only [RO, OF])) only [RR, RM, LN, TT, d65_at, ↓reduceIte, Nat.reduceEqDiff, Nat.reduceLT, Nat.reduceLeDiff, Nat.reduceAdd, Nat.reduceSub, Nat.reduceMul, Nat.reduceMod, Nat.reduceDiv, Nat.reduceBEq, RH, e_h1, h20'', h20', h22'', h22', h25']
              refine J.eq ret_seq ?_
              conv => arg 1; simp (maxSteps := 1000000) (disch := first | assumption | decide | with_unfolding_all rfl | omega | (simp only [LN] <;> omega) | (simp only [RO, OF])) only [RR, RM, LN, TT, d65_at, ↓reduceIte, Nat.reduceEqDiff, Nat.reduceLT, Nat.reduceLeDiff, Nat.reduceAdd, Nat.reduceSub, Nat.reduceMul, Nat.reduceMod, Nat.reduceDiv, Nat.reduceBEq, RH, e_h1, h20'', h20', h22'', h22', h25']
              refine J.ite (fun h27 => ?_) (fun h27 => ?_)
              · have h27' := decide_eq_true h27
                conv => arg 1; simp (maxSteps := 1000000) (disch := first | assumption | decide | with_unfolding_all rfl | omega | (simp only [LN] <;> omega) | (simp only [RO, OF])) only [RR, RM, LN, TT, d65_at, ↓reduceIte, Nat.reduceEqDiff, Nat.reduceLT, Nat.reduceLeDiff, Nat.reduceAdd, Nat.reduceSub, Nat.reduceMul, Nat.reduceMod, Nat.reduceDiv, Nat.reduceBEq, RH, e_h1, h20'', h20', h22'', h22', h25', h27']
                refine J.jmp (t := (shrk .u64 x4 (imax (wk .i64 (x6 - 24)) (wk .i64 ((-149) - x3))), x18, false, x5)) hj2 ?_ ?_
                · first | rfl | (simp only [LN, NN, NT])
                · first | (simp (disch := first | assumption | decide | with_unfolding_all rfl | omega | (simp only [LN] <;> omega) | (simp only [RO, OF])) only [RR, ↓reduceIte, Nat.reduceEqDiff, Nat.reduceLT, Nat.reduceLeDiff, Nat.reduceAdd, Nat.reduceSub, Nat.reduceMul, Nat.reduceMod, Nat.reduceDiv, Nat.reduceBEq, LN, NN, NT]; done) | (simp (disch := first | assumption | decide | with_unfolding_all rfl | omega | (simp only [LN] <;> omega) | (simp only [RO, OF])) only [RR, ↓reduceIte, Nat.reduceEqDiff, Nat.reduceLT, Nat.reduceLeDiff, Nat.reduceAdd, Nat.reduceSub, Nat.reduceMul, Nat.reduceMod, Nat.reduceDiv, Nat.reduceBEq, LN, fm_app, NN, NT]; done) | rfl
              · have h27' := decide_eq_false h27
                conv => arg 1; simp (maxSteps := 1000000) (disch := first | assumption | decide | with_unfolding_all rfl | omega | (simp only [LN] <;> omega) | (simp only [RO, OF])) only [RR, RM, LN, TT, d65_at, ↓reduceIte, Nat.reduceEqDiff, Nat.reduceLT, Nat.reduceLeDiff, Nat.reduceAdd, Nat.reduceSub, Nat.reduceMul, Nat.reduceMod, Nat.reduceDiv, Nat.reduceBEq, RH, e_h1, h20'', h20', h22'', h22', h25', h27']
                refine J.jmp (t := (shrk .u64 x4 (imax (wk .i64 (x6 - 24)) (wk .i64 ((-149) - x3))), x18, false, true)) hj2 ?_ ?_
                · first | rfl | (simp only [LN, NN, NT])
                · first | (simp (disch := first | assumption | decide | with_unfolding_all rfl | omega | (simp only [LN] <;> omega) | (simp only [RO, OF])) only [RR, ↓reduceIte, Nat.reduceEqDiff, Nat.reduceLT, Nat.reduceLeDiff, Nat.reduceAdd, Nat.reduceSub, Nat.reduceMul, Nat.reduceMod, Nat.reduceDiv, Nat.reduceBEq, LN, NN, NT]; done) | (simp (disch := first | assumption | decide | with_unfolding_all rfl | omega | (simp only [LN] <;> omega) | (simp only [RO, OF])) only [RR, ↓reduceIte, Nat.reduceEqDiff, Nat.reduceLT, Nat.reduceLeDiff, Nat.reduceAdd, Nat.reduceSub, Nat.reduceMul, Nat.reduceMod, Nat.reduceDiv, Nat.reduceBEq, LN, fm_app, NN, NT]; done) | rfl
          · conv => arg 1; simp (maxSteps := 1000000) (disch := first | assumption | decide | with_unfolding_all rfl | omega | (simp only [LN] <;> omega) | (simp only [RO, OF])) only [RR, RM, LN, TT, d65_at, ↓reduceIte, Nat.reduceEqDiff, Nat.reduceLT, Nat.reduceLeDiff, Nat.reduceAdd, Nat.reduceSub, Nat.reduceMul, Nat.reduceMod, Nat.reduceDiv, Nat.reduceBEq, RH, e_h1, h20'', h20', h22'', h22']
            refine J.ite (fun h28 => ?_) (fun h28 => ?_)
            · have h28' := decide_eq_true h28
              have h28'' : decide ((band .u64 x4 (wk .u64 ((shlk .u64 1 (imax (wk .i64 (x6 - 24)) (wk .i64 ((-149) - x3)))) - 1))) ≤ (shlk .u64 1 (wk .i64 ((imax (wk .i64 (x6 - 24)) (wk .i64 ((-149) - x3))) - 1)))) = false := decide_eq_false (by omega)
              conv => arg 1; simp (maxSteps := 1000000) (disch := first | assumption | decide | with_unfolding_all rfl | omega | (simp only [LN] <;> omega) | (simp only [RO, OF])) only [RR, RM, LN, TT, d65_at, ↓reduceIte, Nat.reduceEqDiff, Nat.reduceLT, Nat.reduceLeDiff, Nat.reduceAdd, Nat.reduceSub, Nat.reduceMul, Nat.reduceMod, Nat.reduceDiv, Nat.reduceBEq, RH, e_h1, h20'', h20', h22'', h22', h28'', h28']
              refine J.jmp (t := true) hj4 ?_ ?_
              · first | rfl | (simp only [LN, NN, NT])
              · first | (simp (disch := first | assumption | decide | with_unfolding_all rfl | omega | (simp only [LN] <;> omega) | (simp only [RO, OF])) only [RR, ↓reduceIte, Nat.reduceEqDiff, Nat.reduceLT, Nat.reduceLeDiff, Nat.reduceAdd, Nat.reduceSub, Nat.reduceMul, Nat.reduceMod, Nat.reduceDiv, Nat.reduceBEq, LN, NN, NT]; done) | (simp (disch := first | assumption | decide | with_unfolding_all rfl | omega | (simp only [LN] <;> omega) | (simp only [RO, OF])) only [RR, ↓reduceIte, Nat.reduceEqDiff, Nat.reduceLT, Nat.reduceLeDiff, Nat.reduceAdd, Nat.reduceSub, Nat.reduceMul, Nat.reduceMod, Nat.reduceDiv, Nat.reduceBEq, LN, fm_app, NN, NT]; done) | rfl
            · have h28' := decide_eq_false h28
              have h28'' : decide ((band .u64 x4 (wk .u64 ((shlk .u64 1 (imax (wk .i64 (x6 - 24)) (wk .i64 ((-149) - x3)))) - 1))) ≤ (shlk .u64 1 (wk .i64 ((imax (wk .i64 (x6 - 24)) (wk .i64 ((-149) - x3))) - 1)))) = true := decide_eq_true (by omega)
              conv => arg 1; simp (maxSteps := 1000000) (disch := first | assumption | decide | with_unfolding_all rfl | omega | (simp only [LN] <;> omega) | (simp only [RO, OF])) only [RR, RM, LN, TT, d65_at, ↓reduceIte, Nat.reduceEqDiff, Nat.reduceLT, Nat.reduceLeDiff, Nat.reduceAdd, Nat.reduceSub, Nat.reduceMul, Nat.reduceMod, Nat.reduceDiv, Nat.reduceBEq, RH, e_h1, h20'', h20', h22'', h22', h28'', h28']
              refine J.ite (fun h29 => ?_) (fun h29 => ?_)
              · have h29' := decide_eq_true h29
                conv => arg 1; simp (maxSteps := 1000000) (disch := first | assumption | decide | with_unfolding_all rfl | omega | (simp only [LN] <;> omega) | (simp only [RO, OF])) only [RR, RM, LN, TT, d65_at, ↓reduceIte, Nat.reduceEqDiff, Nat.reduceLT, Nat.reduceLeDiff, Nat.reduceAdd, Nat.reduceSub, Nat.reduceMul, Nat.reduceMod, Nat.reduceDiv, Nat.reduceBEq, RH, e_h1, h20'', h20', h22'', h22', h28'', h28', h29']
                refine J.jmp (t := x5) hj4 ?_ ?_
                · first | rfl | (simp only [LN, NN, NT])
                · first | (simp (disch := first | assumption | decide | with_unfolding_all rfl | omega | (simp only [LN] <;> omega) | (simp only [RO, OF])) only [RR, ↓reduceIte, Nat.reduceEqDiff, Nat.reduceLT, Nat.reduceLeDiff, Nat.reduceAdd, Nat.reduceSub, Nat.reduceMul, Nat.reduceMod, Nat.reduceDiv, Nat.reduceBEq, LN, NN, NT]; done) | (simp (disch := first | assumption | decide | with_unfolding_all rfl | omega | (simp only [LN] <;> omega) | (simp only [RO, OF])) only [RR, ↓reduceIte, Nat.reduceEqDiff, Nat.reduceLT, Nat.reduceLeDiff, Nat.reduceAdd, Nat.reduceSub, Nat.reduceMul, Nat.reduceMod, Nat.reduceDiv, Nat.reduceBEq, LN, fm_app, NN, NT]; done) | rfl
              · have h29' := decide_eq_false h29
                conv => arg 1; simp (maxSteps := 1000000) (disch := first | assumption | decide | with_unfolding_all rfl | omega | (simp only [LN] <;> omega) | (simp only [RO, OF])) only [RR, RM, LN, TT, d65_at, ↓reduceIte, Nat.reduceEqDiff, Nat.reduceLT, Nat.reduceLeDiff, Nat.reduceAdd, Nat.reduceSub, Nat.reduceMul, Nat.reduceMod, Nat.reduceDiv, Nat.reduceBEq, RH, e_h1, h20'', h20', h22'', h22', h28'', h28', h29']
                refine J.jmp (t := false) hj4 ?_ ?_
                · first | rfl | (simp only [LN, NN, NT])
                · first | (simp (disch := first | assumption | decide | with_unfolding_all rfl | omega | (simp only [LN] <;> omega) | (simp only [RO, OF])) only [RR, ↓reduceIte, Nat.reduceEqDiff, Nat.reduceLT, Nat.reduceLeDiff, Nat.reduceAdd, Nat.reduceSub, Nat.reduceMul, Nat.reduceMod, Nat.reduceDiv, Nat.reduceBEq, LN, NN, NT]; done) | (simp (disch := first | assumption | decide | with_unfolding_all rfl | omega | (simp only [LN] <;> omega) | (simp only [RO, OF])) only [RR, ↓reduceIte, Nat.reduceEqDiff, Nat.reduceLT, Nat.reduceLeDiff, Nat.reduceAdd, Nat.reduceSub, Nat.reduceMul, Nat.reduceMod, Nat.reduceDiv, Nat.reduceBEq, LN, fm_app, NN, NT]; done) | rfl
  · conv => arg 1; simp (maxSteps := 1000000) (disch := first | assumption | decide | with_unfolding_all rfl | omega | (simp only [LN] <;> omega) | (simp only [RO, OF])) only [RR, RM, LN, TT, d65_at, ↓reduceIte, Nat.reduceEqDiff, Nat.reduceLT, Nat.reduceLeDiff, Nat.reduceAdd, Nat.reduceSub, Nat.reduceMul, Nat.reduceMod, Nat.reduceDiv, Nat.reduceBEq, RH, e_h1]
    refine J.eq go_seq ?_
    conv => arg 1; simp (maxSteps := 1000000) (disch := first | assumption | decide | with_unfolding_all rfl | omega | (simp only [LN] <;> omega) | (simp only [RO, OF])) only [RR, RM, LN, TT, d65_at, ↓reduceIte, Nat.reduceEqDiff, Nat.reduceLT, Nat.reduceLeDiff, Nat.reduceAdd, Nat.reduceSub, Nat.reduceMul, Nat.reduceMod, Nat.reduceDiv, Nat.reduceBEq, RH, e_h1]
    refine J.ite (fun h30 => ?_) (fun h30 => ?_)
    · have h30' := decide_eq_true h30
      conv => arg 1; simp (maxSteps := 1000000) (disch := first | assumption | decide | with_unfolding_all rfl | omega | (simp only [LN] <;> omega) | (simp only [RO, OF])) only [RR, RM, LN, TT, d65_at, ↓reduceIte, Nat.reduceEqDiff, Nat.reduceLT, Nat.reduceLeDiff, Nat.reduceAdd, Nat.reduceSub, Nat.reduceMul, Nat.reduceMod, Nat.reduceDiv, Nat.reduceBEq, RH, e_h1, h30']
      refine J.eq ret_seq ?_
      conv => arg 1; simp (maxSteps := 1000000) (disch := first | assumption | decide | with_unfolding_all rfl | omega | (simp only [LN] <;> omega) | (simp only [RO, OF])) only [RR, RM, LN, TT, d65_at, ↓reduceIte, Nat.reduceEqDiff, Nat.reduceLT, Nat.reduceLeDiff, Nat.reduceAdd, Nat.reduceSub, Nat.reduceMul, Nat.reduceMod, Nat.reduceDiv, Nat.reduceBEq, RH, e_h1, h30']
      refine J.ite (fun h31 => ?_) (fun h31 => ?_)
      · have h31' : x5 = true := h31
        conv => arg 1; simp (maxSteps := 1000000) (disch := first | assumption | decide | with_unfolding_all rfl | omega | (simp only [LN] <;> omega) | (simp only [RO, OF])) only [RR, RM, LN, TT, d65_at, ↓reduceIte, Nat.reduceEqDiff, Nat.reduceLT, Nat.reduceLeDiff, Nat.reduceAdd, Nat.reduceSub, Nat.reduceMul, Nat.reduceMod, Nat.reduceDiv, Nat.reduceBEq, RH, e_h1, h30', h31']
        refine J.eq go_seq ?_
        conv => arg 1; simp (maxSteps := 1000000) (disch := first | assumption | decide | with_unfolding_all rfl | omega | (simp only [LN] <;> omega) | (simp only [RO, OF])) only [RR, RM, LN, TT, d65_at, ↓reduceIte, Nat.reduceEqDiff, Nat.reduceLT, Nat.reduceLeDiff, Nat.reduceAdd, Nat.reduceSub, Nat.reduceMul, Nat.reduceMod, Nat.reduceDiv, Nat.reduceBEq, RH, e_h1, h30', h31']
        refine J.eq ret_seq ?_
        refine J.bind fun x19 h32 => ?_
        have e_h32 := H128_0 _ _ _ h32
        try simp only [NN, NT, LN] at e_h32
        refine J.some ?_
        simp (maxSteps := 20000000) (disch := first | assumption | decide | with_unfolding_all rfl | omega | (simp only [LN] <;> omega) | (simp only [RO, OF])) only [RR, RM, LN, TT, d65_at, ↓reduceIte, Nat.reduceEqDiff, Nat.reduceLT, Nat.reduceLeDiff, Nat.reduceAdd, Nat.reduceSub, Nat.reduceMul, Nat.reduceMod, Nat.reduceDiv, Nat.reduceBEq, RH, e_h1, h30', h31', e_h32, FF, LN, NN, NT]
      · have h31' : x5 = false := Bool.eq_false_iff.2 h31
        refine J.bind fun x20 h33 => ?_
        have e_h33 := H66_0 _ _ h33
        try simp only [NN, NT, LN] at e_h33
        refine J.some ?_
        simp (maxSteps := 20000000) (disch := first | assumption | decide | with_unfolding_all rfl | omega | (simp only [LN] <;> omega) | (simp only [RO, OF])) only [RR, RM, LN, TT, d65_at, ↓reduceIte, Nat.reduceEqDiff, Nat.reduceLT, Nat.reduceLeDiff, Nat.reduceAdd, Nat.reduceSub, Nat.reduceMul, Nat.reduceMod, Nat.reduceDiv, Nat.reduceBEq, RH, e_h1, h30', h31', e_h33, FF, LN, NN, NT]
    · have h30' := decide_eq_false h30
      conv => arg 1; simp (maxSteps := 1000000) (disch := first | assumption | decide | with_unfolding_all rfl | omega | (simp only [LN] <;> omega) | (simp only [RO, OF])) only [RR, RM, LN, TT, d65_at, ↓reduceIte, Nat.reduceEqDiff, Nat.reduceLT, Nat.reduceLeDiff, Nat.reduceAdd, Nat.reduceSub, Nat.reduceMul, Nat.reduceMod, Nat.reduceDiv, Nat.reduceBEq, RH, e_h1, h30']
      refine J.eq ret_seq ?_
      conv => arg 1; simp (maxSteps := 1000000) (disch := first | assumption | decide | with_unfolding_all rfl | omega | (simp only [LN] <;> omega) | (simp only [RO, OF])) only [RR, RM, LN, TT, d65_at, ↓reduceIte, Nat.reduceEqDiff, Nat.reduceLT, Nat.reduceLeDiff, Nat.reduceAdd, Nat.reduceSub, Nat.reduceMul, Nat.reduceMod, Nat.reduceDiv, Nat.reduceBEq, RH, e_h1, h30']
      refine J.eq go_seq ?_
      conv => arg 1; simp (maxSteps := 1000000) (disch := first | assumption | decide | with_unfolding_all rfl | omega | (simp only [LN] <;> omega) | (simp only [RO, OF])) only [RR, RM, LN, TT, d65_at, ↓reduceIte, Nat.reduceEqDiff, Nat.reduceLT, Nat.reduceLeDiff, Nat.reduceAdd, Nat.reduceSub, Nat.reduceMul, Nat.reduceMod, Nat.reduceDiv, Nat.reduceBEq, RH, e_h1, h30']
      refine J.eq ret_seq ?_
      conv => arg 1; simp (maxSteps := 1000000) (disch := first | assumption | decide | with_unfolding_all rfl | omega | (simp only [LN] <;> omega) | (simp only [RO, OF])) only [RR, RM, LN, TT, d65_at, ↓reduceIte, Nat.reduceEqDiff, Nat.reduceLT, Nat.reduceLeDiff, Nat.reduceAdd, Nat.reduceSub, Nat.reduceMul, Nat.reduceMod, Nat.reduceDiv, Nat.reduceBEq, RH, e_h1, h30']
      refine J.ite (fun h34 => ?_) (fun h34 => ?_)
      · have h34' := decide_eq_true h34
        have h34'' : decide ((-300) ≤ x3) = false := decide_eq_false (by omega)
        refine J.bind fun x21 h35 => ?_
        have e_h35 := H128_0 _ _ _ h35
        try simp only [NN, NT, LN] at e_h35
        refine J.some ?_
        simp (maxSteps := 20000000) (disch := first | assumption | decide | with_unfolding_all rfl | omega | (simp only [LN] <;> omega) | (simp only [RO, OF])) only [RR, RM, LN, TT, d65_at, ↓reduceIte, Nat.reduceEqDiff, Nat.reduceLT, Nat.reduceLeDiff, Nat.reduceAdd, Nat.reduceSub, Nat.reduceMul, Nat.reduceMod, Nat.reduceDiv, Nat.reduceBEq, RH, e_h1, h30', h34'', h34', e_h35, FF, LN, NN, NT]
      · have h34' := decide_eq_false h34
        have h34'' : decide ((-300) ≤ x3) = true := decide_eq_true (by omega)
        conv => arg 1; simp (maxSteps := 1000000) (disch := first | assumption | decide | with_unfolding_all rfl | omega | (simp only [LN] <;> omega) | (simp only [RO, OF])) only [RR, RM, LN, TT, d65_at, ↓reduceIte, Nat.reduceEqDiff, Nat.reduceLT, Nat.reduceLeDiff, Nat.reduceAdd, Nat.reduceSub, Nat.reduceMul, Nat.reduceMod, Nat.reduceDiv, Nat.reduceBEq, RH, e_h1, h30', h34'', h34']
        refine J.ite (fun h36 => ?_) (fun h36 => ?_)
        · have h36' := decide_eq_true h36
          have h36'' : decide (x3 ≤ 200) = false := decide_eq_false (by omega)
          refine J.bind fun x22 h37 => ?_
          have e_h37 := H129_0 _ _ _ h37
          try simp only [NN, NT, LN] at e_h37
          refine J.some ?_
          simp (maxSteps := 20000000) (disch := first | assumption | decide | with_unfolding_all rfl | omega | (simp only [LN] <;> omega) | (simp only [RO, OF])) only [RR, RM, LN, TT, d65_at, ↓reduceIte, Nat.reduceEqDiff, Nat.reduceLT, Nat.reduceLeDiff, Nat.reduceAdd, Nat.reduceSub, Nat.reduceMul, Nat.reduceMod, Nat.reduceDiv, Nat.reduceBEq, RH, e_h1, h30', h34'', h34', h36'', h36', e_h37, FF, LN, NN, NT]
        · have h36' := decide_eq_false h36
          have h36'' : decide (x3 ≤ 200) = true := decide_eq_true (by omega)
          conv => arg 1; simp (maxSteps := 1000000) (disch := first | assumption | decide | with_unfolding_all rfl | omega | (simp only [LN] <;> omega) | (simp only [RO, OF])) only [RR, RM, LN, TT, d65_at, ↓reduceIte, Nat.reduceEqDiff, Nat.reduceLT, Nat.reduceLeDiff, Nat.reduceAdd, Nat.reduceSub, Nat.reduceMul, Nat.reduceMod, Nat.reduceDiv, Nat.reduceBEq, RH, e_h1, h30', h34'', h34', h36'', h36']
          refine J.jmp (t := ()) hj1 ?_ ?_
          · first | rfl | (simp only [LN, NN, NT])
          · first | (simp (disch := first | assumption | decide | with_unfolding_all rfl | omega | (simp only [LN] <;> omega) | (simp only [RO, OF])) only [RR, ↓reduceIte, Nat.reduceEqDiff, Nat.reduceLT, Nat.reduceLeDiff, Nat.reduceAdd, Nat.reduceSub, Nat.reduceMul, Nat.reduceMod, Nat.reduceDiv, Nat.reduceBEq, LN, NN, NT]; done) | (simp (disch := first | assumption | decide | with_unfolding_all rfl | omega | (simp only [LN] <;> omega) | (simp only [RO, OF])) only [RR, ↓reduceIte, Nat.reduceEqDiff, Nat.reduceLT, Nat.reduceLeDiff, Nat.reduceAdd, Nat.reduceSub, Nat.reduceMul, Nat.reduceMod, Nat.reduceDiv, Nat.reduceBEq, LN, fm_app, NN, NT]; done) | rfl
noncomputable def t65 (fu : Nat) : CallP := orE 127 (mkC (fun (t : Int) => ([.v (.int .u64 t)] : List AV)) (fun t => math_bits_Len64 fu t) e127) (orE 128 (mkC (fun (t : Int × Bool) => ([.v (.int .i64 t.1), .v (.bool t.2)] : List AV)) (fun t => soft_tiny fu t.1 t.2) e128) (orE 66 (mkC (fun (t : Bool) => ([.v (.bool t)] : List AV)) (fun t => soft_sign fu t) e66) (orE 129 (mkC (fun (t : Int × Bool) => ([.v (.int .i64 t.1), .v (.bool t.2)] : List AV)) (fun t => soft_huge fu t.1 t.2) e129) (orE 130 (mkC (fun (t : Int × Bool) => ([.v (.int .i64 t.1), .v (.bool t.2)] : List AV)) (fun t => soft_outwards fu t.1 t.2) e130) (noP)))))
theorem t65_ok (fu : Nat) : CpOK Tryz.prog (t65 fu ) := orE_ok (orE_ok (orE_ok (orE_ok (orE_ok (noP_ok) (mkC_ok (fun t b h => ok130 fu t.1 t.2  b h))) (mkC_ok (fun t b h => ok129 fu t.1 t.2  b h))) (mkC_ok (fun t b h => ok66 fu t  b h))) (mkC_ok (fun t b h => ok128 fu t.1 t.2  b h))) (mkC_ok (fun t b h => ok127 fu t  b h))
theorem ok65 (fu : Nat) (x1 : Int) (x2 : Bool) (x3 : Int) (x4 : Int) (x5 : Bool) (r) (h : soft_Round fu x1 x2 x3 x4 x5 = some r) : PureOK Tryz.prog 65 [.v (.int .i64 x1), .v (.bool x2), .v (.int .i64 x3), .v (.int .u64 x4), .v (.bool x5)] (e65 r) :=
  pure_J mixed (cp := t65 fu ) (t65_ok fu  ) noI_ok i65 (w65 _ fu x1 x2 x3 x4 x5  (fun a0 r h => orE_hit (mkC_at (a := a0) (by intro a b h; first | (exact rfl) | (simp only [INJ, IJ] at h; first | exact h | (simp_all [Prod.ext_iff]) )) h)) (fun a0 a1 r h => orE_miss (by decide) (orE_hit (mkC_at (a := (a0, a1)) (by intro a b h; first | (exact rfl) | (simp only [INJ, IJ] at h; first | exact h | (simp_all [Prod.ext_iff]) )) h))) (fun a0 r h => orE_miss (by decide) (orE_miss (by decide) (orE_hit (mkC_at (a := a0) (by intro a b h; first | (exact rfl) | (simp only [INJ, IJ] at h; first | exact h | (simp_all [Prod.ext_iff]) )) h)))) (fun a0 a1 r h => orE_miss (by decide) (orE_miss (by decide) (orE_miss (by decide) (orE_hit (mkC_at (a := (a0, a1)) (by intro a b h; first | (exact rfl) | (simp only [INJ, IJ] at h; first | exact h | (simp_all [Prod.ext_iff]) )) h))))) (fun a0 a1 r h => orE_miss (by decide) (orE_miss (by decide) (orE_miss (by decide) (orE_miss (by decide) (orE_hit (mkC_at (a := (a0, a1)) (by intro a b h; first | (exact rfl) | (simp only [INJ, IJ] at h; first | exact h | (simp_all [Prod.ext_iff]) )) h))))))) h
/-! 34: lattice/soft.MulBy -/
def d34 : List (Nat × List Nat) := [(0, [6]), (0, []), (0, [1, 2, 10, 11, 12, 13]), (0, []), (0, [14, 15, 16, 17, 18]), (0, []), (0, [20, 21, 22, 23, 24, 25, 26, 27, 28, 29, 30, 31, 32, 33, 34, 35, 36, 37, 38, 39, 40, 41, 42, 43, 44, 45, 46, 47, 48, 49, 50, 51, 52, 53]), (0, []), (0, []), (0, []), (0, [55, 56, 57, 58, 59, 60]), (0, []), (0, [61, 62, 63]), (0, []), (0, [0, 7, 8, 9, 64, 65, 66, 67, 68, 69, 70, 71, 72, 73, 74, 75, 76])]
def d34_at := And.intro (show d34.getD 0 (0, []) = (0, [6]) from rfl) <| And.intro (show d34.getD 1 (0, []) = (0, []) from rfl) <| And.intro (show d34.getD 2 (0, []) = (0, [1, 2, 10, 11, 12, 13]) from rfl) <| And.intro (show d34.getD 3 (0, []) = (0, []) from rfl) <| And.intro (show d34.getD 4 (0, []) = (0, [14, 15, 16, 17, 18]) from rfl) <| And.intro (show d34.getD 5 (0, []) = (0, []) from rfl) <| And.intro (show d34.getD 6 (0, []) = (0, [20, 21, 22, 23, 24, 25, 26, 27, 28, 29, 30, 31, 32, 33, 34, 35, 36, 37, 38, 39, 40, 41, 42, 43, 44, 45, 46, 47, 48, 49, 50, 51, 52, 53]) from rfl) <| And.intro (show d34.getD 7 (0, []) = (0, []) from rfl) <| And.intro (show d34.getD 8 (0, []) = (0, []) from rfl) <| And.intro (show d34.getD 9 (0, []) = (0, []) from rfl) <| And.intro (show d34.getD 10 (0, []) = (0, [55, 56, 57, 58, 59, 60]) from rfl) <| And.intro (show d34.getD 11 (0, []) = (0, []) from rfl) <| And.intro (show d34.getD 12 (0, []) = (0, [61, 62, 63]) from rfl) <| And.intro (show d34.getD 13 (0, []) = (0, []) from rfl) <| (show d34.getD 14 (0, []) = (0, [0, 7, 8, 9, 64, 65, 66, 67, 68, 69, 70, 71, 72, 73, 74, 75, 76]) from rfl)
theorem i34 : finfo Tryz.prog 34 d34 = some ⟨bodyOf Tryz.f34, [.tmp 6], [24]⟩ := finfo_at Tryz.func34 rfl (by kernel_rfl) (by kernel_rfl)
def e34 : Int → AV := fun r => .v (.int .u32 r)
set_option maxHeartbeats 20000000 in
theorem w34 (cp : CallP) (fu : Nat) (x1 : Int) (x2 : Int) (x3 : Int) (H63_0 : ∀ (a0 : Int) r, soft_open fu a0 = some r → cp 63 [.v (.int .u32 a0)] = some (.agg [.v (.bool r.fneg), .v (.bool r.fnan), .v (.bool r.finf), .v (.int .i64 r.fexp), .v (.int .u64 r.fsig)])) (H66_0 : ∀ (a0 : Bool) r, soft_sign fu a0 = some r → cp 66 [.v (.bool a0)] = some (.v (.int .u32 r))) (H65_0 : ∀ (a0 : Int) (a1 : Bool) (a2 : Int) (a3 : Int) (a4 : Bool) r, soft_Round fu a0 a1 a2 a3 a4 = some r → cp 65 [.v (.int .i64 a0), .v (.bool a1), .v (.int .i64 a2), .v (.int .u64 a3), .v (.bool a4)] = some (.v (.int .u32 r))) : J (go Tryz.prog noC cp noI 0 [] d34 fu (fin Tryz.prog [.tmp 6] [24]) (bodyOf Tryz.f34) (initE 0 [.v (.int .i64 x1), .v (.int .u32 x2), .v (.int .u32 x3)]) [] []) (soft_MulBy fu x1 x2 x3) e34 := by
  unfold soft_MulBy e34
  refine J.bind fun x4 h1 => ?_
  have e_h1 := H63_0 _ _ h1
  try simp only [NN, NT, LN] at e_h1
  refine J.bind fun x5 h2 => ?_
  have e_h2 := H63_0 _ _ h2
  try simp only [NN, NT, LN] at e_h2
  conv => arg 1; simp (maxSteps := 1000000) (disch := first | assumption | decide | with_unfolding_all rfl | omega | (simp only [LN] <;> omega) | (simp only [RO, OF])) only [bodyOf, Tryz.f34, RR, RM, LN, TT, d34_at, ↓reduceIte, Nat.reduceEqDiff, Nat.reduceLT, Nat.reduceLeDiff, Nat.reduceAdd, Nat.reduceSub, Nat.reduceMul, Nat.reduceMod, Nat.reduceDiv, Nat.reduceBEq, RH, e_h1, e_h2]
  refine J.joinS (fun (t : Unit) => ([(0, .v (.int .i64 x1)), (7, .ptr (0, 7, 0) 0 0), (8, .ptr (0, 8, 0) 0 0), (9, .v (.bool (!(x4.fneg == x5.fneg))))], [((0, 7, 0), .bx true ([.v (.bool x4.fneg), .v (.bool false), .v (.bool false), .v (.int .i64 x4.fexp), .v (.int .u64 x4.fsig)])), ((0, 8, 0), .bx true ([.v (.bool x5.fneg), .v (.bool false), .v (.bool false), .v (.int .i64 x5.fexp), .v (.int .u64 x5.fsig)]))])) (fun t => soft_MulBy_k1 fu x1 x4 x5) ?_ (fun hj1 => ?_)
  · rintro ⟨⟩
    show J _ (soft_MulBy_k1 fu x1 x4 x5) _
    unfold soft_MulBy_k1
    refine J.bind fun x6 h3 => ?_
    have e_h3 := H65_0 _ _ _ _ _ _ h3
    try simp only [NN, NT, LN] at e_h3
    refine J.some ?_
    simp (maxSteps := 20000000) (disch := first | assumption | decide | with_unfolding_all rfl | omega | (simp only [LN] <;> omega) | (simp only [RO, OF])) only [RR, RM, LN, TT, d34_at, ↓reduceIte, Nat.reduceEqDiff, Nat.reduceLT, Nat.reduceLeDiff, Nat.reduceAdd, Nat.reduceSub, Nat.reduceMul, Nat.reduceMod, Nat.reduceDiv, Nat.reduceBEq, RH, e_h1, e_h2, e_h3, FF, LN, NN, NT]
  · conv => arg 1; simp (maxSteps := 1000000) (disch := first | assumption | decide | with_unfolding_all rfl | omega | (simp only [LN] <;> omega) | (simp only [RO, OF])) only [RR, RM, LN, TT, d34_at, ↓reduceIte, Nat.reduceEqDiff, Nat.reduceLT, Nat.reduceLeDiff, Nat.reduceAdd, Nat.reduceSub, Nat.reduceMul, Nat.reduceMod, Nat.reduceDiv, Nat.reduceBEq, RH, e_h1, e_h2]
    refine J.eq go_seq ?_
    conv => arg 1; simp (maxSteps := 1000000) (disch := first | assumption | decide | with_unfolding_all rfl | omega | (simp only [LN] <;> omega) | (simp only [RO, OF])) only [RR, RM, LN, TT, d34_at, ↓reduceIte, Nat.reduceEqDiff, Nat.reduceLT, Nat.reduceLeDiff, Nat.reduceAdd, Nat.reduceSub, Nat.reduceMul, Nat.reduceMod, Nat.reduceDiv, Nat.reduceBEq, RH, e_h1, e_h2]
    refine J.ite (fun h4 => ?_) (fun h4 => ?_)
    · have h4' : x4.fnan = true := h4
      conv => arg 1; simp (maxSteps := 1000000) (disch := first | assumption | decide | with_unfolding_all rfl | omega | (simp only [LN] <;> omega) | (simp only [RO, OF])) only [RR, RM, LN, TT, d34_at, ↓reduceIte, Nat.reduceEqDiff, Nat.reduceLT, Nat.reduceLeDiff, Nat.reduceAdd, Nat.reduceSub, Nat.reduceMul, Nat.reduceMod, Nat.reduceDiv, Nat.reduceBEq, RH, e_h1, e_h2, h4']
      refine J.eq ret_seq ?_
      refine J.some ?_
      simp (maxSteps := 20000000) (disch := first | assumption | decide | with_unfolding_all rfl | omega | (simp only [LN] <;> omega) | (simp only [RO, OF])) only [RR, RM, LN, TT, d34_at, ↓reduceIte, Nat.reduceEqDiff, Nat.reduceLT, Nat.reduceLeDiff, Nat.reduceAdd, Nat.reduceSub, Nat.reduceMul, Nat.reduceMod, Nat.reduceDiv, Nat.reduceBEq, RH, e_h1, e_h2, h4', FF, LN, NN, NT]
    · have h4' : x4.fnan = false := Bool.eq_false_iff.2 h4
      conv => arg 1; simp (maxSteps := 1000000) (disch := first | assumption | decide | with_unfolding_all rfl | omega | (simp only [LN] <;> omega) | (simp only [RO, OF])) only [RR, RM, LN, TT, d34_at, ↓reduceIte, Nat.reduceEqDiff, Nat.reduceLT, Nat.reduceLeDiff, Nat.reduceAdd, Nat.reduceSub, Nat.reduceMul, Nat.reduceMod, Nat.reduceDiv, Nat.reduceBEq, RH, e_h1, e_h2, h4']
      refine J.ite (fun h5 => ?_) (fun h5 => ?_)
      · have h5' : x5.fnan = true := h5
        conv => arg 1; simp (maxSteps := 1000000) (disch := first | assumption | decide | with_unfolding_all rfl | omega | (simp only [LN] <;> omega) | (simp only [RO, OF])) only [RR, RM, LN, TT, d34_at, ↓reduceIte, Nat.reduceEqDiff, Nat.reduceLT, Nat.reduceLeDiff, Nat.reduceAdd, Nat.reduceSub, Nat.reduceMul, Nat.reduceMod, Nat.reduceDiv, Nat.reduceBEq, RH, e_h1, e_h2, h4', h5']
        refine J.eq ret_seq ?_
        refine J.some ?_
        simp (maxSteps := 20000000) (disch := first | assumption | decide | with_unfolding_all rfl | omega | (simp only [LN] <;> omega) | (simp only [RO, OF])) only [RR, RM, LN, TT, d34_at, ↓reduceIte, Nat.reduceEqDiff, Nat.reduceLT, Nat.reduceLeDiff, Nat.reduceAdd, Nat.reduceSub, Nat.reduceMul, Nat.reduceMod, Nat.reduceDiv, Nat.reduceBEq, RH, e_h1, e_h2, h4', h5', FF, LN, NN, NT]
      · have h5' : x5.fnan = false := Bool.eq_false_iff.2 h5
        conv => arg 1; simp (maxSteps := 1000000) (disch := first | assumption | decide | with_unfolding_all rfl | omega | (simp only [LN] <;> omega) | (simp only [RO, OF])) only [RR, RM, LN, TT, d34_at, ↓reduceIte, Nat.reduceEqDiff, Nat.reduceLT, Nat.reduceLeDiff, Nat.reduceAdd, Nat.reduceSub, Nat.reduceMul, Nat.reduceMod, Nat.reduceDiv, Nat.reduceBEq, RH, e_h1, e_h2, h4', h5']
        refine J.ite (fun h6 => ?_) (fun h6 => ?_)
        · have h6' : x4.finf = true := h6
          conv => arg 1; simp (maxSteps := 1000000) (disch := first | assumption | decide | with_unfolding_all rfl | omega | (simp only [LN] <;> omega) | (simp only [RO, OF])) only [RR, RM, LN, TT, d34_at, ↓reduceIte, Nat.reduceEqDiff, Nat.reduceLT, Nat.reduceLeDiff, Nat.reduceAdd, Nat.reduceSub, Nat.reduceMul, Nat.reduceMod, Nat.reduceDiv, Nat.reduceBEq, RH, e_h1, e_h2, h4', h5', h6']
          refine J.ite (fun h7 => ?_) (fun h7 => ?_)
          · have h7' : x5.finf = true := h7
            conv => arg 1; simp (maxSteps := 1000000) (disch := first | assumption | decide | with_unfolding_all rfl | omega | (simp only [LN] <;> omega) | (simp only [RO, OF])) only [RR, RM, LN, TT, d34_at, ↓reduceIte, Nat.reduceEqDiff, Nat.reduceLT, Nat.reduceLeDiff, Nat.reduceAdd, Nat.reduceSub, Nat.reduceMul, Nat.reduceMod, Nat.reduceDiv, Nat.reduceBEq, RH, e_h1, e_h2, h4', h5', h6', h7']
            refine J.eq ret_seq ?_
            conv => arg 1; simp (maxSteps := 1000000) (disch := first | assumption | decide | with_unfolding_all rfl | omega | (simp only [LN] <;> omega) | (simp only [RO, OF])) only [RR, RM, LN, TT, d34_at, ↓reduceIte, Nat.reduceEqDiff, Nat.reduceLT, Nat.reduceLeDiff, Nat.reduceAdd, Nat.reduceSub, Nat.reduceMul, Nat.reduceMod, Nat.reduceDiv, Nat.reduceBEq, RH, e_h1, e_h2, h4', h5', h6', h7']
            refine J.eq go_seq ?_
            conv => arg 1; simp (maxSteps := 1000000) (disch := first | assumption | decide | with_unfolding_all rfl | omega | (simp only [LN] <;> omega) | (simp only [RO, OF])) only [RR, RM, LN, TT, d34_at, ↓reduceIte, Nat.reduceEqDiff, Nat.reduceLT, Nat.reduceLeDiff, Nat.reduceAdd, Nat.reduceSub, Nat.reduceMul, Nat.reduceMod, Nat.reduceDiv, Nat.reduceBEq, RH, e_h1, e_h2, h4', h5', h6', h7']
            refine J.eq ret_seq ?_
            refine J.bind fun x7 h8 => ?_
            have e_h8 := H66_0 _ _ h8
            try simp only [NN, NT, LN] at e_h8
            refine J.some ?_
            simp (maxSteps := 20000000) (disch := first | assumption | decide | with_unfolding_all rfl | omega | (simp only [LN] <;> omega) | (simp only [RO, OF])) only [RR, RM, LN, TT, d34_at, ↓reduceIte, Nat.reduceEqDiff, Nat.reduceLT, Nat.reduceLeDiff, Nat.reduceAdd, Nat.reduceSub, Nat.reduceMul, Nat.reduceMod, Nat.reduceDiv, Nat.reduceBEq, RH, e_h1, e_h2, h4', h5', h6', h7', e_h8, FF, LN, NN, NT]
          · have h7' : x5.finf = false := Bool.eq_false_iff.2 h7
            conv => arg 1; simp (maxSteps := 1000000) (disch := first | assumption | decide | with_unfolding_all rfl | omega | (simp only [LN] <;> omega) | (simp only [RO, OF])) only [RR, RM, LN, TT, d34_at, ↓reduceIte, Nat.reduceEqDiff, Nat.reduceLT, Nat.reduceLeDiff, Nat.reduceAdd, Nat.reduceSub, Nat.reduceMul, Nat.reduceMod, Nat.reduceDiv, Nat.reduceBEq, RH, e_h1, e_h2, h4', h5', h6', h7']
            refine J.ite (fun h9 => ?_) (fun h9 => ?_)
            · have h9' := decide_eq_true h9
              conv => arg 1; simp (maxSteps := 1000000) (disch := first | assumption | decide | with_unfolding_all rfl | omega | (simp only [LN] <;> omega) | (simp only [RO, OF])) only [RR, RM, LN, TT, d34_at, ↓reduceIte, Nat.reduceEqDiff, Nat.reduceLT, Nat.reduceLeDiff, Nat.reduceAdd, Nat.reduceSub, Nat.reduceMul, Nat.reduceMod, Nat.reduceDiv, Nat.reduceBEq, RH, e_h1, e_h2, h4', h5', h6', h7', h9']
              refine J.eq ret_seq ?_
              refine J.some ?_
              simp (maxSteps := 20000000) (disch := first | assumption | decide | with_unfolding_all rfl | omega | (simp only [LN] <;> omega) | (simp only [RO, OF])) only [RR, RM, LN, TT, d34_at, ↓reduceIte, Nat.reduceEqDiff, Nat.reduceLT, Nat.reduceLeDiff, Nat.reduceAdd, Nat.reduceSub, Nat.reduceMul, Nat.reduceMod, Nat.reduceDiv, Nat.reduceBEq, RH, e_h1, e_h2, h4', h5', h6', h7', h9', FF, LN, NN, NT]
            · have h9' := decide_eq_false h9
              conv => arg 1; simp (maxSteps := 1000000) (disch := first | assumption | decide | with_unfolding_all rfl | omega | (simp only [LN] <;> omega) | (simp only [RO, OF])) only [RR, RM, LN, TT, d34_at, ↓reduceIte, Nat.reduceEqDiff, Nat.reduceLT, Nat.reduceLeDiff, Nat.reduceAdd, Nat.reduceSub, Nat.reduceMul, Nat.reduceMod, Nat.reduceDiv, Nat.reduceBEq, RH, e_h1, e_h2, h4', h5', h6', h7', h9']
              refine J.eq ret_seq ?_
              conv => arg 1; simp (maxSteps := 1000000) (disch := first | assumption | decide | with_unfolding_all rfl | omega | (simp only [LN] <;> omega) | (simp only [RO, OF])) only [RR, RM, LN, TT, d34_at, ↓reduceIte, Nat.reduceEqDiff, Nat.reduceLT, Nat.reduceLeDiff, Nat.reduceAdd, Nat.reduceSub, Nat.reduceMul, Nat.reduceMod, Nat.reduceDiv, Nat.reduceBEq, RH, e_h1, e_h2, h4', h5', h6', h7', h9']
              refine J.eq go_seq ?_
              conv => arg 1; simp (maxSteps := 1000000) (disch := first | assumption | decide | with_unfolding_all rfl | omega | (simp only [LN] <;> omega) | (simp only [RO, OF])) only [RR, RM, LN, TT, d34_at, ↓reduceIte, Nat.reduceEqDiff, Nat.reduceLT, Nat.reduceLeDiff, Nat.reduceAdd, Nat.reduceSub, Nat.reduceMul, Nat.reduceMod, Nat.reduceDiv, Nat.reduceBEq, RH, e_h1, e_h2, h4', h5', h6', h7', h9']
              refine J.eq ret_seq ?_
              refine J.bind fun x8 h10 => ?_
              have e_h10 := H66_0 _ _ h10
              try simp only [NN, NT, LN] at e_h10
              refine J.some ?_
              simp (maxSteps := 20000000) (disch := first | assumption | decide | with_unfolding_all rfl | omega | (simp only [LN] <;> omega) | (simp only [RO, OF])) only [RR, RM, LN, TT, d34_at, ↓reduceIte, Nat.reduceEqDiff, Nat.reduceLT, Nat.reduceLeDiff, Nat.reduceAdd, Nat.reduceSub, Nat.reduceMul, Nat.reduceMod, Nat.reduceDiv, Nat.reduceBEq, RH, e_h1, e_h2, h4', h5', h6', h7', h9', e_h10, FF, LN, NN, NT]
        · have h6' : x4.finf = false := Bool.eq_false_iff.2 h6
          conv => arg 1; simp (maxSteps := 1000000) (disch := first | assumption | decide | with_unfolding_all rfl | omega | (simp only [LN] <;> omega) | (simp only [RO, OF])) only [RR, RM, LN, TT, d34_at, ↓reduceIte, Nat.reduceEqDiff, Nat.reduceLT, Nat.reduceLeDiff, Nat.reduceAdd, Nat.reduceSub, Nat.reduceMul, Nat.reduceMod, Nat.reduceDiv, Nat.reduceBEq, RH, e_h1, e_h2, h4', h5', h6']
          refine J.ite (fun h11 => ?_) (fun h11 => ?_)
          · have h11' : x5.finf = true := h11
            conv => arg 1; simp (maxSteps := 1000000) (disch := first | assumption | decide | with_unfolding_all rfl | omega | (simp only [LN] <;> omega) | (simp only [RO, OF])) only [RR, RM, LN, TT, d34_at, ↓reduceIte, Nat.reduceEqDiff, Nat.reduceLT, Nat.reduceLeDiff, Nat.reduceAdd, Nat.reduceSub, Nat.reduceMul, Nat.reduceMod, Nat.reduceDiv, Nat.reduceBEq, RH, e_h1, e_h2, h4', h5', h6', h11']
            refine J.eq ret_seq ?_
            conv => arg 1; simp (maxSteps := 1000000) (disch := first | assumption | decide | with_unfolding_all rfl | omega | (simp only [LN] <;> omega) | (simp only [RO, OF])) only [RR, RM, LN, TT, d34_at, ↓reduceIte, Nat.reduceEqDiff, Nat.reduceLT, Nat.reduceLeDiff, Nat.reduceAdd, Nat.reduceSub, Nat.reduceMul, Nat.reduceMod, Nat.reduceDiv, Nat.reduceBEq, RH, e_h1, e_h2, h4', h5', h6', h11']
            refine J.ite (fun h12 => ?_) (fun h12 => ?_)
            · have h12' := decide_eq_true h12
              refine J.some ?_
              simp (maxSteps := 20000000) (disch := first | assumption | decide | with_unfolding_all rfl | omega | (simp only [LN] <;> omega) | (simp only [RO, OF])) only [RR, RM, LN, TT, d34_at, ↓reduceIte, Nat.reduceEqDiff, Nat.reduceLT, Nat.reduceLeDiff, Nat.reduceAdd, Nat.reduceSub, Nat.reduceMul, Nat.reduceMod, Nat.reduceDiv, Nat.reduceBEq, RH, e_h1, e_h2, h4', h5', h6', h11', h12', FF, LN, NN, NT]
            · have h12' := decide_eq_false h12
              conv => arg 1; simp (maxSteps := 1000000) (disch := first | assumption | decide | with_unfolding_all rfl | omega | (simp only [LN] <;> omega) | (simp only [RO, OF])) only [RR, RM, LN, TT, d34_at, ↓reduceIte, Nat.reduceEqDiff, Nat.reduceLT, Nat.reduceLeDiff, Nat.reduceAdd, Nat.reduceSub, Nat.reduceMul, Nat.reduceMod, Nat.reduceDiv, Nat.reduceBEq, RH, e_h1, e_h2, h4', h5', h6', h11', h12']
              refine J.eq go_seq ?_
              conv => arg 1; simp (maxSteps := 1000000) (disch := first | assumption | decide | with_unfolding_all rfl | omega | (simp only [LN] <;> omega) | (simp only [RO, OF])) only [RR, RM, LN, TT, d34_at, ↓reduceIte, Nat.reduceEqDiff, Nat.reduceLT, Nat.reduceLeDiff, Nat.reduceAdd, Nat.reduceSub, Nat.reduceMul, Nat.reduceMod, Nat.reduceDiv, Nat.reduceBEq, RH, e_h1, e_h2, h4', h5', h6', h11', h12']
              refine J.eq ret_seq ?_
              refine J.bind fun x9 h13 => ?_
              have e_h13 := H66_0 _ _ h13
              try simp only [NN, NT, LN] at e_h13
              refine J.some ?_
              simp (maxSteps := 20000000) (disch := first | assumption | decide | with_unfolding_all rfl | omega | (simp only [LN] <;> omega) | (simp only [RO, OF])) only [RR, RM, LN, TT, d34_at, ↓reduceIte, Nat.reduceEqDiff, Nat.reduceLT, Nat.reduceLeDiff, Nat.reduceAdd, Nat.reduceSub, Nat.reduceMul, Nat.reduceMod, Nat.reduceDiv, Nat.reduceBEq, RH, e_h1, e_h2, h4', h5', h6', h11', h12', e_h13, FF, LN, NN, NT]
          · have h11' : x5.finf = false := Bool.eq_false_iff.2 h11
            conv => arg 1; simp (maxSteps := 1000000) (disch := first | assumption | decide | with_unfolding_all rfl | omega | (simp only [LN] <;> omega) | (simp only [RO, OF])) only [RR, RM, LN, TT, d34_at, ↓reduceIte, Nat.reduceEqDiff, Nat.reduceLT, Nat.reduceLeDiff, Nat.reduceAdd, Nat.reduceSub, Nat.reduceMul, Nat.reduceMod, Nat.reduceDiv, Nat.reduceBEq, RH, e_h1, e_h2, h4', h5', h6', h11']
            refine J.eq ret_seq ?_
            conv => arg 1; simp (maxSteps := 1000000) (disch := first | assumption | decide | with_unfolding_all rfl | omega | (simp only [LN] <;> omega) | (simp only [RO, OF])) only [RR, RM, LN, TT, d34_at, ↓reduceIte, Nat.reduceEqDiff, Nat.reduceLT, Nat.reduceLeDiff, Nat.reduceAdd, Nat.reduceSub, Nat.reduceMul, Nat.reduceMod, Nat.reduceDiv, Nat.reduceBEq, RH, e_h1, e_h2, h4', h5', h6', h11']
            refine J.eq go_seq ?_
            conv => arg 1; simp (maxSteps := 1000000) (disch := first | assumption | decide | with_unfolding_all rfl | omega | (simp only [LN] <;> omega) | (simp only [RO, OF])) only [RR, RM, LN, TT, d34_at, ↓reduceIte, Nat.reduceEqDiff, Nat.reduceLT, Nat.reduceLeDiff, Nat.reduceAdd, Nat.reduceSub, Nat.reduceMul, Nat.reduceMod, Nat.reduceDiv, Nat.reduceBEq, RH, e_h1, e_h2, h4', h5', h6', h11']
            refine J.eq ret_seq ?_
            conv => arg 1; simp (maxSteps := 1000000) (disch := first | assumption | decide | with_unfolding_all rfl | omega | (simp only [LN] <;> omega) | (simp only [RO, OF])) only [RR, RM, LN, TT, d34_at, ↓reduceIte, Nat.reduceEqDiff, Nat.reduceLT, Nat.reduceLeDiff, Nat.reduceAdd, Nat.reduceSub, Nat.reduceMul, Nat.reduceMod, Nat.reduceDiv, Nat.reduceBEq, RH, e_h1, e_h2, h4', h5', h6', h11']
            refine J.jmp (t := ()) hj1 ?_ ?_
            · first | rfl | (simp only [LN, NN, NT])
            · first | (simp (disch := first | assumption | decide | with_unfolding_all rfl | omega | (simp only [LN] <;> omega) | (simp only [RO, OF])) only [RR, ↓reduceIte, Nat.reduceEqDiff, Nat.reduceLT, Nat.reduceLeDiff, Nat.reduceAdd, Nat.reduceSub, Nat.reduceMul, Nat.reduceMod, Nat.reduceDiv, Nat.reduceBEq, LN, NN, NT]; done) | (simp (disch := first | assumption | decide | with_unfolding_all rfl | omega | (simp only [LN] <;> omega) | (simp only [RO, OF])) only [RR, ↓reduceIte, Nat.reduceEqDiff, Nat.reduceLT, Nat.reduceLeDiff, Nat.reduceAdd, Nat.reduceSub, Nat.reduceMul, Nat.reduceMod, Nat.reduceDiv, Nat.reduceBEq, LN, fm_app, NN, NT]; done) | rfl
noncomputable def t34 (fu : Nat) : CallP := orE 63 (mkC (fun (t : Int) => ([.v (.int .u32 t)] : List AV)) (fun t => soft_open fu t) e63) (orE 66 (mkC (fun (t : Bool) => ([.v (.bool t)] : List AV)) (fun t => soft_sign fu t) e66) (orE 65 (mkC (fun (t : Int × Bool × Int × Int × Bool) => ([.v (.int .i64 t.1), .v (.bool t.2.1), .v (.int .i64 t.2.2.1), .v (.int .u64 t.2.2.2.1), .v (.bool t.2.2.2.2)] : List AV)) (fun t => soft_Round fu t.1 t.2.1 t.2.2.1 t.2.2.2.1 t.2.2.2.2) e65) (noP)))
theorem t34_ok (fu : Nat) : CpOK Tryz.prog (t34 fu ) := orE_ok (orE_ok (orE_ok (noP_ok) (mkC_ok (fun t b h => ok65 fu t.1 t.2.1 t.2.2.1 t.2.2.2.1 t.2.2.2.2  b h))) (mkC_ok (fun t b h => ok66 fu t  b h))) (mkC_ok (fun t b h => ok63 fu t  b h))
theorem ok34 (fu : Nat) (x1 : Int) (x2 : Int) (x3 : Int) (r) (h : soft_MulBy fu x1 x2 x3 = some r) : PureOK Tryz.prog 34 [.v (.int .i64 x1), .v (.int .u32 x2), .v (.int .u32 x3)] (e34 r) :=
  pure_J mixed (cp := t34 fu ) (t34_ok fu  ) noI_ok i34 (w34 _ fu x1 x2 x3  (fun a0 r h => orE_hit (mkC_at (a := a0) (by intro a b h; first | (exact rfl) | (simp only [INJ, IJ] at h; first | exact h | (simp_all [Prod.ext_iff]) )) h)) (fun a0 r h => orE_miss (by decide) (orE_hit (mkC_at (a := a0) (by intro a b h; first | (exact rfl) | (simp only [INJ, IJ] at h; first | exact h | (simp_all [Prod.ext_iff]) )) h))) (fun a0 a1 a2 a3 a4 r h => orE_miss (by decide) (orE_miss (by decide) (orE_hit (mkC_at (a := (a0, a1, a2, a3, a4)) (by intro a b h; first | (exact rfl) | (simp only [INJ, IJ] at h; first | exact h | (simp_all [Prod.ext_iff]) )) h))))) h
/-! 20: lattice/soft.Mul -/
def d20 : List (Nat × List Nat) := [(0, [4]), (0, []), (0, [0, 1, 5, 6, 7])]
def d20_at := And.intro (show d20.getD 0 (0, []) = (0, [4]) from rfl) <| And.intro (show d20.getD 1 (0, []) = (0, []) from rfl) <| (show d20.getD 2 (0, []) = (0, [0, 1, 5, 6, 7]) from rfl)
theorem i20 : finfo Tryz.prog 20 d20 = some ⟨bodyOf Tryz.f20, [.tmp 4], [24]⟩ := finfo_at Tryz.func20 rfl (by kernel_rfl) (by kernel_rfl)
def e20 : Int → AV := fun r => .v (.int .u32 r)
set_option maxHeartbeats 20000000 in
theorem w20 (cp : CallP) (fu : Nat) (x1 : Int) (x2 : Int) (H34_0 : ∀ (a0 : Int) (a1 : Int) (a2 : Int) r, soft_MulBy fu a0 a1 a2 = some r → cp 34 [.v (.int .i64 a0), .v (.int .u32 a1), .v (.int .u32 a2)] = some (.v (.int .u32 r))) : J (go Tryz.prog noC cp noI 0 [] d20 fu (fin Tryz.prog [.tmp 4] [24]) (bodyOf Tryz.f20) (initE 0 [.v (.int .u32 x1), .v (.int .u32 x2)]) [] []) (soft_Mul fu x1 x2) e20 := by
  unfold soft_Mul e20
  refine J.bind fun x3 h1 => ?_
  have e_h1 := H34_0 _ _ _ _ h1
  try simp only [NN, NT, LN] at e_h1
  refine J.some ?_
  simp (maxSteps := 20000000) (disch := first | assumption | decide | with_unfolding_all rfl | omega | (simp only [LN] <;> omega) | (simp only [RO, OF])) only [bodyOf, Tryz.f20, RR, RM, LN, TT, d20_at, ↓reduceIte, Nat.reduceEqDiff, Nat.reduceLT, Nat.reduceLeDiff, Nat.reduceAdd, Nat.reduceSub, Nat.reduceMul, Nat.reduceMod, Nat.reduceDiv, Nat.reduceBEq, RH, e_h1, FF, LN, NN, NT]
noncomputable def t20 (fu : Nat) : CallP := orE 34 (mkC (fun (t : Int × Int × Int) => ([.v (.int .i64 t.1), .v (.int .u32 t.2.1), .v (.int .u32 t.2.2)] : List AV)) (fun t => soft_MulBy fu t.1 t.2.1 t.2.2) e34) (noP)
theorem t20_ok (fu : Nat) : CpOK Tryz.prog (t20 fu ) := orE_ok (noP_ok) (mkC_ok (fun t b h => ok34 fu t.1 t.2.1 t.2.2  b h))
theorem ok20 (fu : Nat) (x1 : Int) (x2 : Int) (r) (h : soft_Mul fu x1 x2 = some r) : PureOK Tryz.prog 20 [.v (.int .u32 x1), .v (.int .u32 x2)] (e20 r) :=
  pure_J mixed (cp := t20 fu ) (t20_ok fu  ) noI_ok i20 (w20 _ fu x1 x2  (fun a0 a1 a2 r h => orE_hit (mkC_at (a := (a0, a1, a2)) (by intro a b h; first | (exact rfl) | (simp only [INJ, IJ] at h; first | exact h | (simp_all [Prod.ext_iff]) )) h))) h
/-! 64: lattice/soft.nought -/
def d64 : List (Nat × List Nat) := [(0, [2]), (0, []), (0, [0, 3, 4, 5])]
def d64_at := And.intro (show d64.getD 0 (0, []) = (0, [2]) from rfl) <| And.intro (show d64.getD 1 (0, []) = (0, []) from rfl) <| (show d64.getD 2 (0, []) = (0, [0, 3, 4, 5]) from rfl)
theorem i64 : finfo Tryz.prog 64 d64 = some ⟨bodyOf Tryz.f64, [.tmp 2], [24]⟩ := finfo_at Tryz.func64 rfl (by kernel_rfl) (by kernel_rfl)
def e64 : Int → AV := fun r => .v (.int .u32 r)
set_option maxHeartbeats 20000000 in
theorem w64 (cp : CallP) (fu : Nat) (x1 : Int) (H66_0 : ∀ (a0 : Bool) r, soft_sign fu a0 = some r → cp 66 [.v (.bool a0)] = some (.v (.int .u32 r))) : J (go Tryz.prog noC cp noI 0 [] d64 fu (fin Tryz.prog [.tmp 2] [24]) (bodyOf Tryz.f64) (initE 0 [.v (.int .i64 x1)]) [] []) (soft_nought fu x1) e64 := by
  unfold soft_nought e64
  refine J.bind fun x2 h1 => ?_
  have e_h1 := H66_0 _ _ h1
  try simp only [NN, NT, LN] at e_h1
  refine J.some ?_
  simp (maxSteps := 20000000) (disch := first | assumption | decide | with_unfolding_all rfl | omega | (simp only [LN] <;> omega) | (simp only [RO, OF])) only [bodyOf, Tryz.f64, RR, RM, LN, TT, d64_at, ↓reduceIte, Nat.reduceEqDiff, Nat.reduceLT, Nat.reduceLeDiff, Nat.reduceAdd, Nat.reduceSub, Nat.reduceMul, Nat.reduceMod, Nat.reduceDiv, Nat.reduceBEq, RH, e_h1, FF, LN, NN, NT]
noncomputable def t64 (fu : Nat) : CallP := orE 66 (mkC (fun (t : Bool) => ([.v (.bool t)] : List AV)) (fun t => soft_sign fu t) e66) (noP)
theorem t64_ok (fu : Nat) : CpOK Tryz.prog (t64 fu ) := orE_ok (noP_ok) (mkC_ok (fun t b h => ok66 fu t  b h))
theorem ok64 (fu : Nat) (x1 : Int) (r) (h : soft_nought fu x1 = some r) : PureOK Tryz.prog 64 [.v (.int .i64 x1)] (e64 r) :=
  pure_J mixed (cp := t64 fu ) (t64_ok fu  ) noI_ok i64 (w64 _ fu x1  (fun a0 r h => orE_hit (mkC_at (a := a0) (by intro a b h; first | (exact rfl) | (simp only [INJ, IJ] at h; first | exact h | (simp_all [Prod.ext_iff]) )) h))) h
/-! 33: lattice/soft.AddBy -/
def d33 : List (Nat × List Nat) := [(0, [6]), (0, [1, 2]), (0, [14, 15, 16, 17]), (0, [7, 13]), (0, [19, 20, 21, 22, 23, 24, 25, 26, 27, 28, 29, 30, 31, 32, 33, 34, 35, 36, 37, 38, 39]), (0, []), (0, []), (0, []), (0, [41, 42]), (0, []), (0, [43]), (0, []), (0, [45, 46]), (0, []), (0, [47]), (0, []), (0, [49, 50, 51, 52, 53, 54, 55, 56]), (0, []), (0, [57, 58]), (0, []), (0, [60]), (0, []), (0, [61, 62]), (0, []), (0, [63, 64, 65, 66]), (0, []), (0, [68, 69]), (0, []), (0, [70, 71, 72, 73, 74]), (0, []), (10, [75, 76, 77, 78, 79, 80]), (0, []), (0, [81]), (0, []), (0, [83, 84, 85]), (0, []), (0, [86, 87]), (0, []), (0, [88, 89, 90]), (0, []), (0, [91, 92, 93, 94, 95]), (0, []), (8, [96, 97, 98, 99, 100, 101, 102]), (0, []), (0, [9, 104, 105, 106, 107, 108]), (0, []), (0, [109, 110, 111, 112, 113, 114, 115, 116, 117]), (0, []), (0, [119]), (0, []), (0, [120, 121, 122, 123, 124, 125, 126, 127, 128]), (0, []), (0, [130, 131, 132]), (0, []), (0, [133, 134]), (0, []), (0, [136, 137, 138]), (0, []), (0, [139, 140, 141, 142, 143, 144, 145, 146]), (0, []), (0, [0, 8, 10, 11, 12, 147, 148, 149, 150, 151, 152, 153, 154])]
def d33_at := And.intro (show d33.getD 0 (0, []) = (0, [6]) from rfl) <| And.intro (show d33.getD 1 (0, []) = (0, [1, 2]) from rfl) <| And.intro (show d33.getD 2 (0, []) = (0, [14, 15, 16, 17]) from rfl) <| And.intro (show d33.getD 3 (0, []) = (0, [7, 13]) from rfl) <| And.intro (show d33.getD 4 (0, []) = (0, [19, 20, 21, 22, 23, 24, 25, 26, 27, 28, 29, 30, 31, 32, 33, 34, 35, 36, 37, 38, 39]) from rfl) <| And.intro (show d33.getD 5 (0, []) = (0, []) from rfl) <| And.intro (show d33.getD 6 (0, []) = (0, []) from rfl) <| And.intro (show d33.getD 7 (0, []) = (0, []) from rfl) <| And.intro (show d33.getD 8 (0, []) = (0, [41, 42]) from rfl) <| And.intro (show d33.getD 9 (0, []) = (0, []) from rfl) <| And.intro (show d33.getD 10 (0, []) = (0, [43]) from rfl) <| And.intro (show d33.getD 11 (0, []) = (0, []) from rfl) <| And.intro (show d33.getD 12 (0, []) = (0, [45, 46]) from rfl) <| And.intro (show d33.getD 13 (0, []) = (0, []) from rfl) <| And.intro (show d33.getD 14 (0, []) = (0, [47]) from rfl) <| And.intro (show d33.getD 15 (0, []) = (0, []) from rfl) <| And.intro (show d33.getD 16 (0, []) = (0, [49, 50, 51, 52, 53, 54, 55, 56]) from rfl) <| And.intro (show d33.getD 17 (0, []) = (0, []) from rfl) <| And.intro (show d33.getD 18 (0, []) = (0, [57, 58]) from rfl) <| And.intro (show d33.getD 19 (0, []) = (0, []) from rfl) <| And.intro (show d33.getD 20 (0, []) = (0, [60]) from rfl) <| And.intro (show d33.getD 21 (0, []) = (0, []) from rfl) <| And.intro (show d33.getD 22 (0, []) = (0, [61, 62]) from rfl) <| And.intro (show d33.getD 23 (0, []) = (0, []) from rfl) <| And.intro (show d33.getD 24 (0, []) = (0, [63, 64, 65, 66]) from rfl) <| And.intro (show d33.getD 25 (0, []) = (0, []) from rfl) <| And.intro (show d33.getD 26 (0, []) = (0, [68, 69]) from rfl) <| And.intro (show d33.getD 27 (0, []) = (0, []) from rfl) <| And.intro (show d33.getD 28 (0, []) = (0, [70, 71, 72, 73, 74]) from rfl) <| And.intro (show d33.getD 29 (0, []) = (0, []) from rfl) <| And.intro (show d33.getD 30 (0, []) = (10, [75, 76, 77, 78, 79, 80]) from rfl) <| And.intro (show d33.getD 31 (0, []) = (0, []) from rfl) <| And.intro (show d33.getD 32 (0, []) = (0, [81]) from rfl) <| And.intro (show d33.getD 33 (0, []) = (0, []) from rfl) <| And.intro (show d33.getD 34 (0, []) = (0, [83, 84, 85]) from rfl) <| And.intro (show d33.getD 35 (0, []) = (0, []) from rfl) <| And.intro (show d33.getD 36 (0, []) = (0, [86, 87]) from rfl) <| And.intro (show d33.getD 37 (0, []) = (0, []) from rfl) <| And.intro (show d33.getD 38 (0, []) = (0, [88, 89, 90]) from rfl) <| And.intro (show d33.getD 39 (0, []) = (0, []) from rfl) <| And.intro (show d33.getD 40 (0, []) = (0, [91, 92, 93, 94, 95]) from rfl) <| And.intro (show d33.getD 41 (0, []) = (0, []) from rfl) <| And.intro (show d33.getD 42 (0, []) = (8, [96, 97, 98, 99, 100, 101, 102]) from rfl) <| And.intro (show d33.getD 43 (0, []) = (0, []) from rfl) <| And.intro (show d33.getD 44 (0, []) = (0, [9, 104, 105, 106, 107, 108]) from rfl) <| And.intro (show d33.getD 45 (0, []) = (0, []) from rfl) <| And.intro (show d33.getD 46 (0, []) = (0, [109, 110, 111, 112, 113, 114, 115, 116, 117]) from rfl) <| And.intro (show d33.getD 47 (0, []) = (0, []) from rfl) <| And.intro (show d33.getD 48 (0, []) = (0, [119]) from rfl) <| And.intro (show d33.getD 49 (0, []) = (0, []) from rfl) <| And.intro (show d33.getD 50 (0, []) = (0, [120, 121, 122, 123, 124, 125, 126, 127, 128]) from rfl) <| And.intro (show d33.getD 51 (0, []) = (0, []) from rfl) <| And.intro (show d33.getD 52 (0, []) = (0, [130, 131, 132]) from rfl) <| And.intro (show d33.getD 53 (0, []) = (0, []) from rfl) <| And.intro (show d33.getD 54 (0, []) = (0, [133, 134]) from rfl) <| And.intro (show d33.getD 55 (0, []) = (0, []) from rfl) <| And.intro (show d33.getD 56 (0, []) = (0, [136, 137, 138]) from rfl) <| And.intro (show d33.getD 57 (0, []) = (0, []) from rfl) <| And.intro (show d33.getD 58 (0, []) = (0, [139, 140, 141, 142, 143, 144, 145, 146]) from rfl) <| And.intro (show d33.getD 59 (0, []) = (0, []) from rfl) <| (show d33.getD 60 (0, []) = (0, [0, 8, 10, 11, 12, 147, 148, 149, 150, 151, 152, 153, 154]) from rfl)
theorem i33 : finfo Tryz.prog 33 d33 = some ⟨bodyOf Tryz.f33, [.tmp 6], [24]⟩ := finfo_at Tryz.func33 rfl (by kernel_rfl) (by kernel_rfl)
def e33 : Int → AV := fun r => .v (.int .u32 r)
set_option maxHeartbeats 20000000 in
theorem w33 (cp : CallP) (fu : Nat) (x1 : Int) (x2 : Int) (x3 : Int) (H63_0 : ∀ (a0 : Int) r, soft_open fu a0 = some r → cp 63 [.v (.int .u32 a0)] = some (.agg [.v (.bool r.fneg), .v (.bool r.fnan), .v (.bool r.finf), .v (.int .i64 r.fexp), .v (.int .u64 r.fsig)])) (H64_0 : ∀ (a0 : Int) r, soft_nought fu a0 = some r → cp 64 [.v (.int .i64 a0)] = some (.v (.int .u32 r))) (H65_0 : ∀ (a0 : Int) (a1 : Bool) (a2 : Int) (a3 : Int) (a4 : Bool) r, soft_Round fu a0 a1 a2 a3 a4 = some r → cp 65 [.v (.int .i64 a0), .v (.bool a1), .v (.int .i64 a2), .v (.int .u64 a3), .v (.bool a4)] = some (.v (.int .u32 r))) : J (go Tryz.prog noC cp noI 0 [] d33 fu (fin Tryz.prog [.tmp 6] [24]) (bodyOf Tryz.f33) (initE 0 [.v (.int .i64 x1), .v (.int .u32 x2), .v (.int .u32 x3)]) [] []) (soft_AddBy fu x1 x2 x3) e33 := by
  unfold soft_AddBy e33
  refine J.bind fun x4 h1 => ?_
  have e_h1 := H63_0 _ _ h1
  try simp only [NN, NT, LN] at e_h1
  refine J.bind fun x5 h2 => ?_
  have e_h2 := H63_0 _ _ h2
  try simp only [NN, NT, LN] at e_h2
  conv => arg 1; simp (maxSteps := 1000000) (disch := first | assumption | decide | with_unfolding_all rfl | omega | (simp only [LN] <;> omega) | (simp only [RO, OF])) only [bodyOf, Tryz.f33, RR, RM, LN, TT, d33_at, ↓reduceIte, Nat.reduceEqDiff, Nat.reduceLT, Nat.reduceLeDiff, Nat.reduceAdd, Nat.reduceSub, Nat.reduceMul, Nat.reduceMod, Nat.reduceDiv, Nat.reduceBEq, RH, e_h1, e_h2]
  refine J.joinS (fun (t : Unit) => ([(0, .v (.int .i64 x1)), (7, .ptr (0, 7, 0) 0 0), (8, .ptr (0, 8, 0) 0 0)], [((0, 7, 0), .bx true ([.v (.bool x4.fneg), .v (.bool false), .v (.bool false), .v (.int .i64 x4.fexp), .v (.int .u64 x4.fsig)])), ((0, 8, 0), .bx true ([.v (.bool x5.fneg), .v (.bool false), .v (.bool false), .v (.int .i64 x5.fexp), .v (.int .u64 x5.fsig)]))])) (fun t => soft_AddBy_k1 fu x1 x4 x5) ?_ (fun hj1 => ?_)
  · rintro ⟨⟩
    show J _ (soft_AddBy_k1 fu x1 x4 x5) _
    unfold soft_AddBy_k1
    refine J.joinS (fun (t : Bool × Int × Int × Bool × Int × Int) => ([(0, .v (.int .i64 x1)), (7, .ptr (0, 7, 0) 0 0), (8, .ptr (0, 8, 0) 0 0)], [((0, 7, 0), .bx true ([.v (.bool t.1), .v (.bool false), .v (.bool false), .v (.int .i64 t.2.1), .v (.int .u64 t.2.2.1)])), ((0, 8, 0), .bx true ([.v (.bool t.2.2.2.1), .v (.bool false), .v (.bool false), .v (.int .i64 t.2.2.2.2.1), .v (.int .u64 t.2.2.2.2.2)]))])) (fun t => soft_AddBy_k2 fu x1 t.1 t.2.1 t.2.2.1 t.2.2.2.1 t.2.2.2.2.1 t.2.2.2.2.2) ?_ (fun hj2 => ?_)
    · rintro ⟨x6, x7, x8, x9, x10, x11⟩
      show J _ (soft_AddBy_k2 fu x1 x6 x7 x8 x9 x10 x11) _
      unfold soft_AddBy_k2
      conv => arg 1; simp (maxSteps := 1000000) (disch := first | assumption | decide | with_unfolding_all rfl | omega | (simp only [LN] <;> omega) | (simp only [RO, OF])) only [RR, RM, LN, TT, d33_at, ↓reduceIte, Nat.reduceEqDiff, Nat.reduceLT, Nat.reduceLeDiff, Nat.reduceAdd, Nat.reduceSub, Nat.reduceMul, Nat.reduceMod, Nat.reduceDiv, Nat.reduceBEq, RH, e_h1, e_h2]
      refine J.joinS (fun (t : Int × Int × Int × Bool) => ([(0, .v (.int .i64 x1)), (7, .ptr (0, 7, 0) 0 0), (8, .ptr (0, 8, 0) 0 0), (9, .v (.int .i64 (wk .i64 (x7 - x10)))), (10, .v (.int .i64 t.1)), (11, .v (.int .u64 t.2.1)), (12, .v (.int .u64 t.2.2.1)), (13, .v (.bool t.2.2.2))], [((0, 7, 0), .bx true ([.v (.bool x6), .v (.bool false), .v (.bool false), .v (.int .i64 x7), .v (.int .u64 x8)])), ((0, 8, 0), .bx true ([.v (.bool x9), .v (.bool false), .v (.bool false), .v (.int .i64 x10), .v (.int .u64 x11)]))])) (fun t => soft_AddBy_k3 fu x1 x6 x9 t.1 t.2.1 t.2.2.1 t.2.2.2) ?_ (fun hj3 => ?_)
      · rintro ⟨x12, x13, x14, x15⟩
        show J _ (soft_AddBy_k3 fu x1 x6 x9 x12 x13 x14 x15) _
        unfold soft_AddBy_k3
        refine J.eq go_seq ?_
        conv => arg 1; simp (maxSteps := 1000000) (disch := first | assumption | decide | with_unfolding_all rfl | omega | (simp only [LN] <;> omega) | (simp only [RO, OF])) only [RR, RM, LN, TT, d33_at, ↓reduceIte, Nat.reduceEqDiff, Nat.reduceLT, Nat.reduceLeDiff, Nat.reduceAdd, Nat.reduceSub, Nat.reduceMul, Nat.reduceMod, Nat.reduceDiv, Nat.reduceBEq, RH, e_h1, e_h2]
        refine J.ite (fun h3 => ?_) (fun h3 => ?_)
        · have h3' : (x6 == x9) = true := h3
          refine J.bind fun x16 h4 => ?_
          have e_h4 := H65_0 _ _ _ _ _ _ h4
          try simp only [NN, NT, LN] at e_h4
          refine J.some ?_
          simp (maxSteps := 20000000) (disch := first | assumption | decide | with_unfolding_all rfl | omega | (simp only [LN] <;> omega) | (simp only [RO, OF])) only [RR, RM, LN, TT, d33_at, ↓reduceIte, Nat.reduceEqDiff, Nat.reduceLT, Nat.reduceLeDiff, Nat.reduceAdd, Nat.reduceSub, Nat.reduceMul, Nat.reduceMod, Nat.reduceDiv, Nat.reduceBEq, RH, e_h1, e_h2, h3', e_h4, FF, LN, NN, NT]
        · have h3' : (x6 == x9) = false := Bool.eq_false_iff.2 h3
          conv => arg 1; simp (maxSteps := 1000000) (disch := first | assumption | decide | with_unfolding_all rfl | omega | (simp only [LN] <;> omega) | (simp only [RO, OF])) only [RR, RM, LN, TT, d33_at, ↓reduceIte, Nat.reduceEqDiff, Nat.reduceLT, Nat.reduceLeDiff, Nat.reduceAdd, Nat.reduceSub, Nat.reduceMul, Nat.reduceMod, Nat.reduceDiv, Nat.reduceBEq, RH, e_h1, e_h2, h3']
          refine J.ite (fun h5 => ?_) (fun h5 => ?_)
          · have h5' : x15 = true := h5
            refine J.bind fun x17 h6 => ?_
            have e_h6 := H65_0 _ _ _ _ _ _ h6
            try simp only [NN, NT, LN] at e_h6
            refine J.some ?_
            simp (maxSteps := 20000000) (disch := first | assumption | decide | with_unfolding_all rfl | omega | (simp only [LN] <;> omega) | (simp only [RO, OF])) only [RR, RM, LN, TT, d33_at, ↓reduceIte, Nat.reduceEqDiff, Nat.reduceLT, Nat.reduceLeDiff, Nat.reduceAdd, Nat.reduceSub, Nat.reduceMul, Nat.reduceMod, Nat.reduceDiv, Nat.reduceBEq, RH, e_h1, e_h2, h3', h5', e_h6, FF, LN, NN, NT]
          · have h5' : x15 = false := Bool.eq_false_iff.2 h5
            conv => arg 1; simp (maxSteps := 1000000) (disch := first | assumption | decide | with_unfolding_all rfl | omega | (simp only [LN] <;> omega) | (simp only [RO, OF])) only [RR, RM, LN, TT, d33_at, ↓reduceIte, Nat.reduceEqDiff, Nat.reduceLT, Nat.reduceLeDiff, Nat.reduceAdd, Nat.reduceSub, Nat.reduceMul, Nat.reduceMod, Nat.reduceDiv, Nat.reduceBEq, RH, e_h1, e_h2, h3', h5']
            refine J.ite (fun h7 => ?_) (fun h7 => ?_)
            · have h7' := decide_eq_true h7
              refine J.bind fun x18 h8 => ?_
              have e_h8 := H64_0 _ _ h8
              try simp only [NN, NT, LN] at e_h8
              refine J.some ?_
              simp (maxSteps := 20000000) (disch := first | assumption | decide | with_unfolding_all rfl | omega | (simp only [LN] <;> omega) | (simp only [RO, OF])) only [RR, RM, LN, TT, d33_at, ↓reduceIte, Nat.reduceEqDiff, Nat.reduceLT, Nat.reduceLeDiff, Nat.reduceAdd, Nat.reduceSub, Nat.reduceMul, Nat.reduceMod, Nat.reduceDiv, Nat.reduceBEq, RH, e_h1, e_h2, h3', h5', h7', e_h8, FF, LN, NN, NT]
            · have h7' := decide_eq_false h7
              conv => arg 1; simp (maxSteps := 1000000) (disch := first | assumption | decide | with_unfolding_all rfl | omega | (simp only [LN] <;> omega) | (simp only [RO, OF])) only [RR, RM, LN, TT, d33_at, ↓reduceIte, Nat.reduceEqDiff, Nat.reduceLT, Nat.reduceLeDiff, Nat.reduceAdd, Nat.reduceSub, Nat.reduceMul, Nat.reduceMod, Nat.reduceDiv, Nat.reduceBEq, RH, e_h1, e_h2, h3', h5', h7']
              refine J.ite (fun h9 => ?_) (fun h9 => ?_)
              · have h9' := decide_eq_true h9
                have h9'' : decide (x13 ≤ x14) = false := decide_eq_false (by omega)
                refine J.bind fun x19 h10 => ?_
                have e_h10 := H65_0 _ _ _ _ _ _ h10
                try simp only [NN, NT, LN] at e_h10
                refine J.some ?_
                simp (maxSteps := 20000000) (disch := first | assumption | decide | with_unfolding_all rfl | omega | (simp only [LN] <;> omega) | (simp only [RO, OF])) only [RR, RM, LN, TT, d33_at, ↓reduceIte, Nat.reduceEqDiff, Nat.reduceLT, Nat.reduceLeDiff, Nat.reduceAdd, Nat.reduceSub, Nat.reduceMul, Nat.reduceMod, Nat.reduceDiv, Nat.reduceBEq, RH, e_h1, e_h2, h3', h5', h7', h9'', h9', e_h10, FF, LN, NN, NT]
              · have h9' := decide_eq_false h9
                have h9'' : decide (x13 ≤ x14) = true := decide_eq_true (by omega)
                conv => arg 1; simp (maxSteps := 1000000) (disch := first | assumption | decide | with_unfolding_all rfl | omega | (simp only [LN] <;> omega) | (simp only [RO, OF])) only [RR, RM, LN, TT, d33_at, ↓reduceIte, Nat.reduceEqDiff, Nat.reduceLT, Nat.reduceLeDiff, Nat.reduceAdd, Nat.reduceSub, Nat.reduceMul, Nat.reduceMod, Nat.reduceDiv, Nat.reduceBEq, RH, e_h1, e_h2, h3', h5', h7', h9'', h9']
                refine J.eq ret_seq ?_
                refine J.bind fun x20 h11 => ?_
                have e_h11 := H65_0 _ _ _ _ _ _ h11
                try simp only [NN, NT, LN] at e_h11
                refine J.some ?_
                simp (maxSteps := 20000000) (disch := first | assumption | decide | with_unfolding_all rfl | omega | (simp only [LN] <;> omega) | (simp only [RO, OF])) only [RR, RM, LN, TT, d33_at, ↓reduceIte, Nat.reduceEqDiff, Nat.reduceLT, Nat.reduceLeDiff, Nat.reduceAdd, Nat.reduceSub, Nat.reduceMul, Nat.reduceMod, Nat.reduceDiv, Nat.reduceBEq, RH, e_h1, e_h2, h3', h5', h7', h9'', h9', e_h11, FF, LN, NN, NT]
      · conv => arg 1; simp (maxSteps := 1000000) (disch := first | assumption | decide | with_unfolding_all rfl | omega | (simp only [LN] <;> omega) | (simp only [RO, OF])) only [RR, RM, LN, TT, d33_at, ↓reduceIte, Nat.reduceEqDiff, Nat.reduceLT, Nat.reduceLeDiff, Nat.reduceAdd, Nat.reduceSub, Nat.reduceMul, Nat.reduceMod, Nat.reduceDiv, Nat.reduceBEq, RH, e_h1, e_h2]
        refine J.ite (fun h12 => ?_) (fun h12 => ?_)
        · have h12' := decide_eq_true h12
          have h12'' : decide (38 < (wk .i64 (x7 - x10))) = false := decide_eq_false (by omega)
          refine J.chk fun h13 => ?_
          conv => arg 1; simp (maxSteps := 1000000) (disch := first | assumption | decide | with_unfolding_all rfl | omega | (simp only [LN] <;> omega) | (simp only [RO, OF])) only [RR, RM, LN, TT, d33_at, ↓reduceIte, Nat.reduceEqDiff, Nat.reduceLT, Nat.reduceLeDiff, Nat.reduceAdd, Nat.reduceSub, Nat.reduceMul, Nat.reduceMod, Nat.reduceDiv, Nat.reduceBEq, RH, e_h1, e_h2, h12'', h12']
          refine J.jmp (t := (x10, shlk .u64 x8 (wk .i64 (x7 - x10)), x11, false)) hj3 ?_ ?_
          · first | rfl | (simp only [LN, NN, NT])
          · first | (simp (disch := first | assumption | decide | with_unfolding_all rfl | omega | (simp only [LN] <;> omega) | (simp only [RO, OF])) only [RR, ↓reduceIte, Nat.reduceEqDiff, Nat.reduceLT, Nat.reduceLeDiff, Nat.reduceAdd, Nat.reduceSub, Nat.reduceMul, Nat.reduceMod, Nat.reduceDiv, Nat.reduceBEq, LN, NN, NT]; done) | (simp (disch := first | assumption | decide | with_unfolding_all rfl | omega | (simp only [LN] <;> omega) | (simp only [RO, OF])) only [RR, ↓reduceIte, Nat.reduceEqDiff, Nat.reduceLT, Nat.reduceLeDiff, Nat.reduceAdd, Nat.reduceSub, Nat.reduceMul, Nat.reduceMod, Nat.reduceDiv, Nat.reduceBEq, LN, fm_app, NN, NT]; done) | rfl
        · have h12' := decide_eq_false h12
          have h12'' : decide (38 < (wk .i64 (x7 - x10))) = true := decide_eq_true (by omega)
          refine J.chk fun h14 => ?_
          conv => arg 1; simp (maxSteps := 1000000) (disch := first | assumption | decide | with_unfolding_all rfl | omega | (simp only [LN] <;> omega) | (simp only [RO, OF])) only [RR, RM, LN, TT, d33_at, ↓reduceIte, Nat.reduceEqDiff, Nat.reduceLT, Nat.reduceLeDiff, Nat.reduceAdd, Nat.reduceSub, Nat.reduceMul, Nat.reduceMod, Nat.reduceDiv, Nat.reduceBEq, RH, e_h1, e_h2, h12'', h12']
          refine J.jmp (t := (wk .i64 (x7 - 38), shlk .u64 x8 38, shrk .u64 x11 (wk .i64 ((wk .i64 (x7 - x10)) - 38)), !(decide ((shlk .u64 (shrk .u64 x11 (wk .i64 ((wk .i64 (x7 - x10)) - 38))) (wk .i64 ((wk .i64 (x7 - x10)) - 38))) = x11)))) hj3 ?_ ?_
          · first | rfl | (simp only [LN, NN, NT])
          · first | (simp (disch := first | assumption | decide | with_unfolding_all rfl | omega | (simp only [LN] <;> omega) | (simp only [RO, OF])) only [RR, ↓reduceIte, Nat.reduceEqDiff, Nat.reduceLT, Nat.reduceLeDiff, Nat.reduceAdd, Nat.reduceSub, Nat.reduceMul, Nat.reduceMod, Nat.reduceDiv, Nat.reduceBEq, LN, NN, NT]; done) | (simp (disch := first | assumption | decide | with_unfolding_all rfl | omega | (simp only [LN] <;> omega) | (simp only [RO, OF])) only [RR, ↓reduceIte, Nat.reduceEqDiff, Nat.reduceLT, Nat.reduceLeDiff, Nat.reduceAdd, Nat.reduceSub, Nat.reduceMul, Nat.reduceMod, Nat.reduceDiv, Nat.reduceBEq, LN, fm_app, NN, NT]; done) | rfl
    · conv => arg 1; simp (maxSteps := 1000000) (disch := first | assumption | decide | with_unfolding_all rfl | omega | (simp only [LN] <;> omega) | (simp only [RO, OF])) only [RR, RM, LN, TT, d33_at, ↓reduceIte, Nat.reduceEqDiff, Nat.reduceLT, Nat.reduceLeDiff, Nat.reduceAdd, Nat.reduceSub, Nat.reduceMul, Nat.reduceMod, Nat.reduceDiv, Nat.reduceBEq, RH, e_h1, e_h2]
      refine J.ite (fun h15 => ?_) (fun h15 => ?_)
      · have h15' := decide_eq_true h15
        have h15'' : decide (x5.fexp ≤ x4.fexp) = false := decide_eq_false (by omega)
        conv => arg 1; simp (maxSteps := 1000000) (disch := first | assumption | decide | with_unfolding_all rfl | omega | (simp only [LN] <;> omega) | (simp only [RO, OF])) only [RR, RM, LN, TT, d33_at, ↓reduceIte, Nat.reduceEqDiff, Nat.reduceLT, Nat.reduceLeDiff, Nat.reduceAdd, Nat.reduceSub, Nat.reduceMul, Nat.reduceMod, Nat.reduceDiv, Nat.reduceBEq, RH, e_h1, e_h2, h15'', h15']
        refine J.jmp (t := (x5.fneg, x5.fexp, x5.fsig, x4.fneg, x4.fexp, x4.fsig)) hj2 ?_ ?_
        · first | rfl | (simp only [LN, NN, NT])
        · first | (simp (disch := first | assumption | decide | with_unfolding_all rfl | omega | (simp only [LN] <;> omega) | (simp only [RO, OF])) only [RR, ↓reduceIte, Nat.reduceEqDiff, Nat.reduceLT, Nat.reduceLeDiff, Nat.reduceAdd, Nat.reduceSub, Nat.reduceMul, Nat.reduceMod, Nat.reduceDiv, Nat.reduceBEq, LN, NN, NT]; done) | (simp (disch := first | assumption | decide | with_unfolding_all rfl | omega | (simp only [LN] <;> omega) | (simp only [RO, OF])) only [RR, ↓reduceIte, Nat.reduceEqDiff, Nat.reduceLT, Nat.reduceLeDiff, Nat.reduceAdd, Nat.reduceSub, Nat.reduceMul, Nat.reduceMod, Nat.reduceDiv, Nat.reduceBEq, LN, fm_app, NN, NT]; done) | rfl
      · have h15' := decide_eq_false h15
        have h15'' : decide (x5.fexp ≤ x4.fexp) = true := decide_eq_true (by omega)
        conv => arg 1; simp (maxSteps := 1000000) (disch := first | assumption | decide | with_unfolding_all rfl | omega | (simp only [LN] <;> omega) | (simp only [RO, OF])) only [RR, RM, LN, TT, d33_at, ↓reduceIte, Nat.reduceEqDiff, Nat.reduceLT, Nat.reduceLeDiff, Nat.reduceAdd, Nat.reduceSub, Nat.reduceMul, Nat.reduceMod, Nat.reduceDiv, Nat.reduceBEq, RH, e_h1, e_h2, h15'', h15']
        refine J.jmp (t := (x4.fneg, x4.fexp, x4.fsig, x5.fneg, x5.fexp, x5.fsig)) hj2 ?_ ?_
        · first | rfl | (simp only [LN, NN, NT])
        · first | (simp (disch := first | assumption | decide | with_unfolding_all rfl | omega | (simp only [LN] <;> omega) | (simp only [RO, OF])) only [RR, ↓reduceIte, Nat.reduceEqDiff, Nat.reduceLT, Nat.reduceLeDiff, Nat.reduceAdd, Nat.reduceSub, Nat.reduceMul, Nat.reduceMod, Nat.reduceDiv, Nat.reduceBEq, LN, NN, NT]; done) | (simp (disch := first | assumption | decide | with_unfolding_all rfl | omega | (simp only [LN] <;> omega) | (simp only [RO, OF])) only [RR, ↓reduceIte, Nat.reduceEqDiff, Nat.reduceLT, Nat.reduceLeDiff, Nat.reduceAdd, Nat.reduceSub, Nat.reduceMul, Nat.reduceMod, Nat.reduceDiv, Nat.reduceBEq, LN, fm_app, NN, NT]; done) | rfl
  · conv => arg 1; simp (maxSteps := 1000000) (disch := first | assumption | decide | with_unfolding_all rfl | omega | (simp only [LN] <;> omega) | (simp only [RO, OF])) only [RR, RM, LN, TT, d33_at, ↓reduceIte, Nat.reduceEqDiff, Nat.reduceLT, Nat.reduceLeDiff, Nat.reduceAdd, Nat.reduceSub, Nat.reduceMul, Nat.reduceMod, Nat.reduceDiv, Nat.reduceBEq, RH, e_h1, e_h2]
    refine J.eq go_seq ?_
    conv => arg 1; simp (maxSteps := 1000000) (disch := first | assumption | decide | with_unfolding_all rfl | omega | (simp only [LN] <;> omega) | (simp only [RO, OF])) only [RR, RM, LN, TT, d33_at, ↓reduceIte, Nat.reduceEqDiff, Nat.reduceLT, Nat.reduceLeDiff, Nat.reduceAdd, Nat.reduceSub, Nat.reduceMul, Nat.reduceMod, Nat.reduceDiv, Nat.reduceBEq, RH, e_h1, e_h2]
    refine J.ite (fun h16 => ?_) (fun h16 => ?_)
    · have h16' : x4.fnan = true := h16
      conv => arg 1; simp (maxSteps := 1000000) (disch := first | assumption | decide | with_unfolding_all rfl | omega | (simp only [LN] <;> omega) | (simp only [RO, OF])) only [RR, RM, LN, TT, d33_at, ↓reduceIte, Nat.reduceEqDiff, Nat.reduceLT, Nat.reduceLeDiff, Nat.reduceAdd, Nat.reduceSub, Nat.reduceMul, Nat.reduceMod, Nat.reduceDiv, Nat.reduceBEq, RH, e_h1, e_h2, h16']
      refine J.eq ret_seq ?_
      refine J.some ?_
      simp (maxSteps := 20000000) (disch := first | assumption | decide | with_unfolding_all rfl | omega | (simp only [LN] <;> omega) | (simp only [RO, OF])) only [RR, RM, LN, TT, d33_at, ↓reduceIte, Nat.reduceEqDiff, Nat.reduceLT, Nat.reduceLeDiff, Nat.reduceAdd, Nat.reduceSub, Nat.reduceMul, Nat.reduceMod, Nat.reduceDiv, Nat.reduceBEq, RH, e_h1, e_h2, h16', FF, LN, NN, NT]
    · have h16' : x4.fnan = false := Bool.eq_false_iff.2 h16
      conv => arg 1; simp (maxSteps := 1000000) (disch := first | assumption | decide | with_unfolding_all rfl | omega | (simp only [LN] <;> omega) | (simp only [RO, OF])) only [RR, RM, LN, TT, d33_at, ↓reduceIte, Nat.reduceEqDiff, Nat.reduceLT, Nat.reduceLeDiff, Nat.reduceAdd, Nat.reduceSub, Nat.reduceMul, Nat.reduceMod, Nat.reduceDiv, Nat.reduceBEq, RH, e_h1, e_h2, h16']
      refine J.ite (fun h17 => ?_) (fun h17 => ?_)
      · have h17' : x5.fnan = true := h17
        conv => arg 1; simp (maxSteps := 1000000) (disch := first | assumption | decide | with_unfolding_all rfl | omega | (simp only [LN] <;> omega) | (simp only [RO, OF])) only [RR, RM, LN, TT, d33_at, ↓reduceIte, Nat.reduceEqDiff, Nat.reduceLT, Nat.reduceLeDiff, Nat.reduceAdd, Nat.reduceSub, Nat.reduceMul, Nat.reduceMod, Nat.reduceDiv, Nat.reduceBEq, RH, e_h1, e_h2, h16', h17']
        refine J.eq ret_seq ?_
        refine J.some ?_
        simp (maxSteps := 20000000) (disch := first | assumption | decide | with_unfolding_all rfl | omega | (simp only [LN] <;> omega) | (simp only [RO, OF])) only [RR, RM, LN, TT, d33_at, ↓reduceIte, Nat.reduceEqDiff, Nat.reduceLT, Nat.reduceLeDiff, Nat.reduceAdd, Nat.reduceSub, Nat.reduceMul, Nat.reduceMod, Nat.reduceDiv, Nat.reduceBEq, RH, e_h1, e_h2, h16', h17', FF, LN, NN, NT]
      · have h17' : x5.fnan = false := Bool.eq_false_iff.2 h17
        conv => arg 1; simp (maxSteps := 1000000) (disch := first | assumption | decide | with_unfolding_all rfl | omega | (simp only [LN] <;> omega) | (simp only [RO, OF])) only [RR, RM, LN, TT, d33_at, ↓reduceIte, Nat.reduceEqDiff, Nat.reduceLT, Nat.reduceLeDiff, Nat.reduceAdd, Nat.reduceSub, Nat.reduceMul, Nat.reduceMod, Nat.reduceDiv, Nat.reduceBEq, RH, e_h1, e_h2, h16', h17']
        refine J.ite (fun h18 => ?_) (fun h18 => ?_)
        · have h18' : x4.finf = true := h18
          conv => arg 1; simp (maxSteps := 1000000) (disch := first | assumption | decide | with_unfolding_all rfl | omega | (simp only [LN] <;> omega) | (simp only [RO, OF])) only [RR, RM, LN, TT, d33_at, ↓reduceIte, Nat.reduceEqDiff, Nat.reduceLT, Nat.reduceLeDiff, Nat.reduceAdd, Nat.reduceSub, Nat.reduceMul, Nat.reduceMod, Nat.reduceDiv, Nat.reduceBEq, RH, e_h1, e_h2, h16', h17', h18']
          refine J.ite (fun h19 => ?_) (fun h19 => ?_)
          · have h19' : x5.finf = true := h19
            conv => arg 1; simp (maxSteps := 1000000) (disch := first | assumption | decide | with_unfolding_all rfl | omega | (simp only [LN] <;> omega) | (simp only [RO, OF])) only [RR, RM, LN, TT, d33_at, ↓reduceIte, Nat.reduceEqDiff, Nat.reduceLT, Nat.reduceLeDiff, Nat.reduceAdd, Nat.reduceSub, Nat.reduceMul, Nat.reduceMod, Nat.reduceDiv, Nat.reduceBEq, RH, e_h1, e_h2, h16', h17', h18', h19']
            refine J.eq ret_seq ?_
            conv => arg 1; simp (maxSteps := 1000000) (disch := first | assumption | decide | with_unfolding_all rfl | omega | (simp only [LN] <;> omega) | (simp only [RO, OF])) only [RR, RM, LN, TT, d33_at, ↓reduceIte, Nat.reduceEqDiff, Nat.reduceLT, Nat.reduceLeDiff, Nat.reduceAdd, Nat.reduceSub, Nat.reduceMul, Nat.reduceMod, Nat.reduceDiv, Nat.reduceBEq, RH, e_h1, e_h2, h16', h17', h18', h19']
            refine J.ite (fun h20 => ?_) (fun h20 => ?_)
            · have h20' : (x4.fneg == x5.fneg) = true := h20
              refine J.some ?_
              simp (maxSteps := 20000000) (disch := first | assumption | decide | with_unfolding_all rfl | omega | (simp only [LN] <;> omega) | (simp only [RO, OF])) only [RR, RM, LN, TT, d33_at, ↓reduceIte, Nat.reduceEqDiff, Nat.reduceLT, Nat.reduceLeDiff, Nat.reduceAdd, Nat.reduceSub, Nat.reduceMul, Nat.reduceMod, Nat.reduceDiv, Nat.reduceBEq, RH, e_h1, e_h2, h16', h17', h18', h19', h20', FF, LN, NN, NT]
            · have h20' : (x4.fneg == x5.fneg) = false := Bool.eq_false_iff.2 h20
              refine J.some ?_
              simp (maxSteps := 20000000) (disch := first | assumption | decide | with_unfolding_all rfl | omega | (simp only [LN] <;> omega) | (simp only [RO, OF])) only [RR, RM, LN, TT, d33_at, ↓reduceIte, Nat.reduceEqDiff, Nat.reduceLT, Nat.reduceLeDiff, Nat.reduceAdd, Nat.reduceSub, Nat.reduceMul, Nat.reduceMod, Nat.reduceDiv, Nat.reduceBEq, RH, e_h1, e_h2, h16', h17', h18', h19', h20', FF, LN, NN, NT]
          · have h19' : x5.finf = false := Bool.eq_false_iff.2 h19
            conv => arg 1; simp (maxSteps := 1000000) (disch := first | assumption | decide | with_unfolding_all rfl | omega | (simp only [LN] <;> omega) | (simp only [RO, OF])) only [RR, RM, LN, TT, d33_at, ↓reduceIte, Nat.reduceEqDiff, Nat.reduceLT, Nat.reduceLeDiff, Nat.reduceAdd, Nat.reduceSub, Nat.reduceMul, Nat.reduceMod, Nat.reduceDiv, Nat.reduceBEq, RH, e_h1, e_h2, h16', h17', h18', h19']
            refine J.eq ret_seq ?_
            refine J.some ?_
            simp (maxSteps := 20000000) (disch := first | assumption | decide | with_unfolding_all rfl | omega | (simp only [LN] <;> omega) | (simp only [RO, OF])) only [RR, RM, LN, TT, d33_at, ↓reduceIte, Nat.reduceEqDiff, Nat.reduceLT, Nat.reduceLeDiff, Nat.reduceAdd, Nat.reduceSub, Nat.reduceMul, Nat.reduceMod, Nat.reduceDiv, Nat.reduceBEq, RH, e_h1, e_h2, h16', h17', h18', h19', FF, LN, NN, NT]
        · have h18' : x4.finf = false := Bool.eq_false_iff.2 h18
          conv => arg 1; simp (maxSteps := 1000000) (disch := first | assumption | decide | with_unfolding_all rfl | omega | (simp only [LN] <;> omega) | (simp only [RO, OF])) only [RR, RM, LN, TT, d33_at, ↓reduceIte, Nat.reduceEqDiff, Nat.reduceLT, Nat.reduceLeDiff, Nat.reduceAdd, Nat.reduceSub, Nat.reduceMul, Nat.reduceMod, Nat.reduceDiv, Nat.reduceBEq, RH, e_h1, e_h2, h16', h17', h18']
          refine J.eq ret_seq ?_
          conv => arg 1; simp (maxSteps := 1000000) (disch := first | assumption | decide | with_unfolding_all rfl | omega | (simp only [LN] <;> omega) | (simp only [RO, OF])) only [RR, RM, LN, TT, d33_at, ↓reduceIte, Nat.reduceEqDiff, Nat.reduceLT, Nat.reduceLeDiff, Nat.reduceAdd, Nat.reduceSub, Nat.reduceMul, Nat.reduceMod, Nat.reduceDiv, Nat.reduceBEq, RH, e_h1, e_h2, h16', h17', h18']
          refine J.ite (fun h21 => ?_) (fun h21 => ?_)
          · have h21' : x5.finf = true := h21
            refine J.some ?_
            simp (maxSteps := 20000000) (disch := first | assumption | decide | with_unfolding_all rfl | omega | (simp only [LN] <;> omega) | (simp only [RO, OF])) only [RR, RM, LN, TT, d33_at, ↓reduceIte, Nat.reduceEqDiff, Nat.reduceLT, Nat.reduceLeDiff, Nat.reduceAdd, Nat.reduceSub, Nat.reduceMul, Nat.reduceMod, Nat.reduceDiv, Nat.reduceBEq, RH, e_h1, e_h2, h16', h17', h18', h21', FF, LN, NN, NT]
          · have h21' : x5.finf = false := Bool.eq_false_iff.2 h21
            conv => arg 1; simp (maxSteps := 1000000) (disch := first | assumption | decide | with_unfolding_all rfl | omega | (simp only [LN] <;> omega) | (simp only [RO, OF])) only [RR, RM, LN, TT, d33_at, ↓reduceIte, Nat.reduceEqDiff, Nat.reduceLT, Nat.reduceLeDiff, Nat.reduceAdd, Nat.reduceSub, Nat.reduceMul, Nat.reduceMod, Nat.reduceDiv, Nat.reduceBEq, RH, e_h1, e_h2, h16', h17', h18', h21']
            refine J.eq go_seq ?_
            conv => arg 1; simp (maxSteps := 1000000) (disch := first | assumption | decide | with_unfolding_all rfl | omega | (simp only [LN] <;> omega) | (simp only [RO, OF])) only [RR, RM, LN, TT, d33_at, ↓reduceIte, Nat.reduceEqDiff, Nat.reduceLT, Nat.reduceLeDiff, Nat.reduceAdd, Nat.reduceSub, Nat.reduceMul, Nat.reduceMod, Nat.reduceDiv, Nat.reduceBEq, RH, e_h1, e_h2, h16', h17', h18', h21']
            refine J.ite (fun h22 => ?_) (fun h22 => ?_)
            · have h22' := decide_eq_true h22
              conv => arg 1; simp (maxSteps := 1000000) (disch := first | assumption | decide | with_unfolding_all rfl | omega | (simp only [LN] <;> omega) | (simp only [RO, OF])) only [RR, RM, LN, TT, d33_at, ↓reduceIte, Nat.reduceEqDiff, Nat.reduceLT, Nat.reduceLeDiff, Nat.reduceAdd, Nat.reduceSub, Nat.reduceMul, Nat.reduceMod, Nat.reduceDiv, Nat.reduceBEq, RH, e_h1, e_h2, h16', h17', h18', h21', h22']
              refine J.eq ret_seq ?_
              conv => arg 1; simp (maxSteps := 1000000) (disch := first | assumption | decide | with_unfolding_all rfl | omega | (simp only [LN] <;> omega) | (simp only [RO, OF])) only [RR, RM, LN, TT, d33_at, ↓reduceIte, Nat.reduceEqDiff, Nat.reduceLT, Nat.reduceLeDiff, Nat.reduceAdd, Nat.reduceSub, Nat.reduceMul, Nat.reduceMod, Nat.reduceDiv, Nat.reduceBEq, RH, e_h1, e_h2, h16', h17', h18', h21', h22']
              refine J.ite (fun h23 => ?_) (fun h23 => ?_)
              · have h23' := decide_eq_true h23
                conv => arg 1; simp (maxSteps := 1000000) (disch := first | assumption | decide | with_unfolding_all rfl | omega | (simp only [LN] <;> omega) | (simp only [RO, OF])) only [RR, RM, LN, TT, d33_at, ↓reduceIte, Nat.reduceEqDiff, Nat.reduceLT, Nat.reduceLeDiff, Nat.reduceAdd, Nat.reduceSub, Nat.reduceMul, Nat.reduceMod, Nat.reduceDiv, Nat.reduceBEq, RH, e_h1, e_h2, h16', h17', h18', h21', h22', h23']
                refine J.eq go_seq ?_
                conv => arg 1; simp (maxSteps := 1000000) (disch := first | assumption | decide | with_unfolding_all rfl | omega | (simp only [LN] <;> omega) | (simp only [RO, OF])) only [RR, RM, LN, TT, d33_at, ↓reduceIte, Nat.reduceEqDiff, Nat.reduceLT, Nat.reduceLeDiff, Nat.reduceAdd, Nat.reduceSub, Nat.reduceMul, Nat.reduceMod, Nat.reduceDiv, Nat.reduceBEq, RH, e_h1, e_h2, h16', h17', h18', h21', h22', h23']
                refine J.ite (fun h24 => ?_) (fun h24 => ?_)
                · have h24' := decide_eq_true h24
                  refine J.some ?_
                  simp (maxSteps := 20000000) (disch := first | assumption | decide | with_unfolding_all rfl | omega | (simp only [LN] <;> omega) | (simp only [RO, OF])) only [RR, RM, LN, TT, d33_at, ↓reduceIte, Nat.reduceEqDiff, Nat.reduceLT, Nat.reduceLeDiff, Nat.reduceAdd, Nat.reduceSub, Nat.reduceMul, Nat.reduceMod, Nat.reduceDiv, Nat.reduceBEq, RH, e_h1, e_h2, h16', h17', h18', h21', h22', h23', h24', FF, LN, NN, NT]
                · have h24' := decide_eq_false h24
                  conv => arg 1; simp (maxSteps := 1000000) (disch := first | assumption | decide | with_unfolding_all rfl | omega | (simp only [LN] <;> omega) | (simp only [RO, OF])) only [RR, RM, LN, TT, d33_at, ↓reduceIte, Nat.reduceEqDiff, Nat.reduceLT, Nat.reduceLeDiff, Nat.reduceAdd, Nat.reduceSub, Nat.reduceMul, Nat.reduceMod, Nat.reduceDiv, Nat.reduceBEq, RH, e_h1, e_h2, h16', h17', h18', h21', h22', h23', h24']
                  refine J.eq ret_seq ?_
                  refine J.bind fun x21 h25 => ?_
                  have e_h25 := H64_0 _ _ h25
                  try simp only [NN, NT, LN] at e_h25
                  refine J.some ?_
                  simp (maxSteps := 20000000) (disch := first | assumption | decide | with_unfolding_all rfl | omega | (simp only [LN] <;> omega) | (simp only [RO, OF])) only [RR, RM, LN, TT, d33_at, ↓reduceIte, Nat.reduceEqDiff, Nat.reduceLT, Nat.reduceLeDiff, Nat.reduceAdd, Nat.reduceSub, Nat.reduceMul, Nat.reduceMod, Nat.reduceDiv, Nat.reduceBEq, RH, e_h1, e_h2, h16', h17', h18', h21', h22', h23', h24', e_h25, FF, LN, NN, NT]
              · have h23' := decide_eq_false h23
                conv => arg 1; simp (maxSteps := 1000000) (disch := first | assumption | decide | with_unfolding_all rfl | omega | (simp only [LN] <;> omega) | (simp only [RO, OF])) only [RR, RM, LN, TT, d33_at, ↓reduceIte, Nat.reduceEqDiff, Nat.reduceLT, Nat.reduceLeDiff, Nat.reduceAdd, Nat.reduceSub, Nat.reduceMul, Nat.reduceMod, Nat.reduceDiv, Nat.reduceBEq, RH, e_h1, e_h2, h16', h17', h18', h21', h22', h23']
                refine J.jmp (t := ()) hj1 ?_ ?_
                · first | rfl | (simp only [LN, NN, NT])
                · first | (simp (disch := first | assumption | decide | with_unfolding_all rfl | omega | (simp only [LN] <;> omega) | (simp only [RO, OF])) only [RR, ↓reduceIte, Nat.reduceEqDiff, Nat.reduceLT, Nat.reduceLeDiff, Nat.reduceAdd, Nat.reduceSub, Nat.reduceMul, Nat.reduceMod, Nat.reduceDiv, Nat.reduceBEq, LN, NN, NT]; done) | (simp (disch := first | assumption | decide | with_unfolding_all rfl | omega | (simp only [LN] <;> omega) | (simp only [RO, OF])) only [RR, ↓reduceIte, Nat.reduceEqDiff, Nat.reduceLT, Nat.reduceLeDiff, Nat.reduceAdd, Nat.reduceSub, Nat.reduceMul, Nat.reduceMod, Nat.reduceDiv, Nat.reduceBEq, LN, fm_app, NN, NT]; done) | rfl
            · have h22' := decide_eq_false h22
              conv => arg 1; simp (maxSteps := 1000000) (disch := first | assumption | decide | with_unfolding_all rfl | omega | (simp only [LN] <;> omega) | (simp only [RO, OF])) only [RR, RM, LN, TT, d33_at, ↓reduceIte, Nat.reduceEqDiff, Nat.reduceLT, Nat.reduceLeDiff, Nat.reduceAdd, Nat.reduceSub, Nat.reduceMul, Nat.reduceMod, Nat.reduceDiv, Nat.reduceBEq, RH, e_h1, e_h2, h16', h17', h18', h21', h22']
              refine J.eq ret_seq ?_
              conv => arg 1; simp (maxSteps := 1000000) (disch := first | assumption | decide | with_unfolding_all rfl | omega | (simp only [LN] <;> omega) | (simp only [RO, OF])) only [RR, RM, LN, TT, d33_at, ↓reduceIte, Nat.reduceEqDiff, Nat.reduceLT, Nat.reduceLeDiff, Nat.reduceAdd, Nat.reduceSub, Nat.reduceMul, Nat.reduceMod, Nat.reduceDiv, Nat.reduceBEq, RH, e_h1, e_h2, h16', h17', h18', h21', h22']
              refine J.jmp (t := ()) hj1 ?_ ?_
              · first | rfl | (simp only [LN, NN, NT])
              · first | (simp (disch := first | assumption | decide | with_unfolding_all rfl | omega | (simp only [LN] <;> omega) | (simp only [RO, OF])) only [RR, ↓reduceIte, Nat.reduceEqDiff, Nat.reduceLT, Nat.reduceLeDiff, Nat.reduceAdd, Nat.reduceSub, Nat.reduceMul, Nat.reduceMod, Nat.reduceDiv, Nat.reduceBEq, LN, NN, NT]; done) | (simp (disch := first | assumption | decide | with_unfolding_all rfl | omega | (simp only [LN] <;> omega) | (simp only [RO, OF])) only [RR, ↓reduceIte, Nat.reduceEqDiff, Nat.reduceLT, Nat.reduceLeDiff, Nat.reduceAdd, Nat.reduceSub, Nat.reduceMul, Nat.reduceMod, Nat.reduceDiv, Nat.reduceBEq, LN, fm_app, NN, NT]; done) | rfl
noncomputable def t33 (fu : Nat) : CallP := orE 63 (mkC (fun (t : Int) => ([.v (.int .u32 t)] : List AV)) (fun t => soft_open fu t) e63) (orE 64 (mkC (fun (t : Int) => ([.v (.int .i64 t)] : List AV)) (fun t => soft_nought fu t) e64) (orE 65 (mkC (fun (t : Int × Bool × Int × Int × Bool) => ([.v (.int .i64 t.1), .v (.bool t.2.1), .v (.int .i64 t.2.2.1), .v (.int .u64 t.2.2.2.1), .v (.bool t.2.2.2.2)] : List AV)) (fun t => soft_Round fu t.1 t.2.1 t.2.2.1 t.2.2.2.1 t.2.2.2.2) e65) (noP)))
theorem t33_ok (fu : Nat) : CpOK Tryz.prog (t33 fu ) := orE_ok (orE_ok (orE_ok (noP_ok) (mkC_ok (fun t b h => ok65 fu t.1 t.2.1 t.2.2.1 t.2.2.2.1 t.2.2.2.2  b h))) (mkC_ok (fun t b h => ok64 fu t  b h))) (mkC_ok (fun t b h => ok63 fu t  b h))
theorem ok33 (fu : Nat) (x1 : Int) (x2 : Int) (x3 : Int) (r) (h : soft_AddBy fu x1 x2 x3 = some r) : PureOK Tryz.prog 33 [.v (.int .i64 x1), .v (.int .u32 x2), .v (.int .u32 x3)] (e33 r) :=
  pure_J mixed (cp := t33 fu ) (t33_ok fu  ) noI_ok i33 (w33 _ fu x1 x2 x3  (fun a0 r h => orE_hit (mkC_at (a := a0) (by intro a b h; first | (exact rfl) | (simp only [INJ, IJ] at h; first | exact h | (simp_all [Prod.ext_iff]) )) h)) (fun a0 r h => orE_miss (by decide) (orE_hit (mkC_at (a := a0) (by intro a b h; first | (exact rfl) | (simp only [INJ, IJ] at h; first | exact h | (simp_all [Prod.ext_iff]) )) h))) (fun a0 a1 a2 a3 a4 r h => orE_miss (by decide) (orE_miss (by decide) (orE_hit (mkC_at (a := (a0, a1, a2, a3, a4)) (by intro a b h; first | (exact rfl) | (simp only [INJ, IJ] at h; first | exact h | (simp_all [Prod.ext_iff]) )) h))))) h
/-! 19: lattice/soft.Add -/
def d19 : List (Nat × List Nat) := [(0, [4]), (0, []), (0, [0, 1, 5, 6, 7])]
def d19_at := And.intro (show d19.getD 0 (0, []) = (0, [4]) from rfl) <| And.intro (show d19.getD 1 (0, []) = (0, []) from rfl) <| (show d19.getD 2 (0, []) = (0, [0, 1, 5, 6, 7]) from rfl)
theorem i19 : finfo Tryz.prog 19 d19 = some ⟨bodyOf Tryz.f19, [.tmp 4], [24]⟩ := finfo_at Tryz.func19 rfl (by kernel_rfl) (by kernel_rfl)
def e19 : Int → AV := fun r => .v (.int .u32 r)
set_option maxHeartbeats 20000000 in
theorem w19 (cp : CallP) (fu : Nat) (x1 : Int) (x2 : Int) (H33_0 : ∀ (a0 : Int) (a1 : Int) (a2 : Int) r, soft_AddBy fu a0 a1 a2 = some r → cp 33 [.v (.int .i64 a0), .v (.int .u32 a1), .v (.int .u32 a2)] = some (.v (.int .u32 r))) : J (go Tryz.prog noC cp noI 0 [] d19 fu (fin Tryz.prog [.tmp 4] [24]) (bodyOf Tryz.f19) (initE 0 [.v (.int .u32 x1), .v (.int .u32 x2)]) [] []) (soft_Add fu x1 x2) e19 := by
  unfold soft_Add e19
  refine J.bind fun x3 h1 => ?_
  have e_h1 := H33_0 _ _ _ _ h1
  try simp only [NN, NT, LN] at e_h1
  refine J.some ?_
  simp (maxSteps := 20000000) (disch := first | assumption | decide | with_unfolding_all rfl | omega | (simp only [LN] <;> omega) | (simp only [RO, OF])) only [bodyOf, Tryz.f19, RR, RM, LN, TT, d19_at, ↓reduceIte, Nat.reduceEqDiff, Nat.reduceLT, Nat.reduceLeDiff, Nat.reduceAdd, Nat.reduceSub, Nat.reduceMul, Nat.reduceMod, Nat.reduceDiv, Nat.reduceBEq, RH, e_h1, FF, LN, NN, NT]
noncomputable def t19 (fu : Nat) : CallP := orE 33 (mkC (fun (t : Int × Int × Int) => ([.v (.int .i64 t.1), .v (.int .u32 t.2.1), .v (.int .u32 t.2.2)] : List AV)) (fun t => soft_AddBy fu t.1 t.2.1 t.2.2) e33) (noP)
theorem t19_ok (fu : Nat) : CpOK Tryz.prog (t19 fu ) := orE_ok (noP_ok) (mkC_ok (fun t b h => ok33 fu t.1 t.2.1 t.2.2  b h))
theorem ok19 (fu : Nat) (x1 : Int) (x2 : Int) (r) (h : soft_Add fu x1 x2 = some r) : PureOK Tryz.prog 19 [.v (.int .u32 x1), .v (.int .u32 x2)] (e19 r) :=
  pure_J mixed (cp := t19 fu ) (t19_ok fu  ) noI_ok i19 (w19 _ fu x1 x2  (fun a0 a1 a2 r h => orE_hit (mkC_at (a := (a0, a1, a2)) (by intro a b h; first | (exact rfl) | (simp only [INJ, IJ] at h; first | exact h | (simp_all [Prod.ext_iff]) )) h))) h
/-! 9: lattice/mat.Dot -/
def d9 : List (Nat × List Nat) := [(0, [4]), (0, [0, 1, 11, 12]), (0, []), (0, []), (0, [7, 8, 9, 10]), (0, []), (0, []), (0, []), (0, [14]), (0, []), (12, [6, 15, 16, 17, 18, 19, 20, 21, 22, 23, 24, 25]), (0, []), (0, [26]), (0, []), (0, [5, 27])]
def d9_at := And.intro (show d9.getD 0 (0, []) = (0, [4]) from rfl) <| And.intro (show d9.getD 1 (0, []) = (0, [0, 1, 11, 12]) from rfl) <| And.intro (show d9.getD 2 (0, []) = (0, []) from rfl) <| And.intro (show d9.getD 3 (0, []) = (0, []) from rfl) <| And.intro (show d9.getD 4 (0, []) = (0, [7, 8, 9, 10]) from rfl) <| And.intro (show d9.getD 5 (0, []) = (0, []) from rfl) <| And.intro (show d9.getD 6 (0, []) = (0, []) from rfl) <| And.intro (show d9.getD 7 (0, []) = (0, []) from rfl) <| And.intro (show d9.getD 8 (0, []) = (0, [14]) from rfl) <| And.intro (show d9.getD 9 (0, []) = (0, []) from rfl) <| And.intro (show d9.getD 10 (0, []) = (12, [6, 15, 16, 17, 18, 19, 20, 21, 22, 23, 24, 25]) from rfl) <| And.intro (show d9.getD 11 (0, []) = (0, []) from rfl) <| And.intro (show d9.getD 12 (0, []) = (0, [26]) from rfl) <| And.intro (show d9.getD 13 (0, []) = (0, []) from rfl) <| (show d9.getD 14 (0, []) = (0, [5, 27]) from rfl)
theorem i9 : finfo Tryz.prog 9 d9 = some ⟨bodyOf Tryz.f9, [.tmp 4], [24]⟩ := finfo_at Tryz.func9 rfl (by kernel_rfl) (by kernel_rfl)
def e9 : Int → AV := fun r => .v (.int .u32 r)
set_option maxHeartbeats 20000000 in
theorem w9 (cp : CallP) (fu : Nat) (x1 : List Int) (x2 : List Int) (H20_0 : ∀ (a0 : Int) (a1 : Int) r, soft_Mul fu a0 a1 = some r → cp 20 [.v (.int .u32 a0), .v (.int .u32 a1)] = some (.v (.int .u32 r))) (H19_0 : ∀ (a0 : Int) (a1 : Int) r, soft_Add fu a0 a1 = some r → cp 19 [.v (.int .u32 a0), .v (.int .u32 a1)] = some (.v (.int .u32 r))) : J (go Tryz.prog noC cp noI 0 [] d9 fu (fin Tryz.prog [.tmp 4] [24]) (bodyOf Tryz.f9) (initE 0 [.arr x1.length (lm (ik .u32) x1), .arr x2.length (lm (ik .u32) x2)]) [] []) (mat_Dot fu x1 x2) e9 := by
  unfold mat_Dot e9
  conv => arg 1; simp (maxSteps := 1000000) (disch := first | assumption | decide | with_unfolding_all rfl | omega | (simp only [LN] <;> omega) | (simp only [RO, OF])) only [bodyOf, Tryz.f9, RR, RM, LN, TT, d9_at, ↓reduceIte, Nat.reduceEqDiff, Nat.reduceLT, Nat.reduceLeDiff, Nat.reduceAdd, Nat.reduceSub, Nat.reduceMul, Nat.reduceMod, Nat.reduceDiv, Nat.reduceBEq, RH]
  refine J.eq go_seq ?_
  conv => arg 1; simp (maxSteps := 1000000) (disch := first | assumption | decide | with_unfolding_all rfl | omega | (simp only [LN] <;> omega) | (simp only [RO, OF])) only [RR, RM, LN, TT, d9_at, ↓reduceIte, Nat.reduceEqDiff, Nat.reduceLT, Nat.reduceLeDiff, Nat.reduceAdd, Nat.reduceSub, Nat.reduceMul, Nat.reduceMod, Nat.reduceDiv, Nat.reduceBEq, RH]
  unfold mat_Dot_W1
  refine J.loop (fun (s : Int × Int) => ([(0, .arr x1.length (lm (ik .u32) x1)), (1, .arr x2.length (lm (ik .u32) x2)), (5, .v (.int .u32 s.1)), (11, .v (.int .i64 (imin (x1.length : Int) (x2.length : Int)))), (12, .v (.int .i64 s.2))], [])) (fun next s => mat_Dot_L1 fu x1 x2 (fun x7 x8 => next (x7, x8)) s.1 s.2) (s0 := (0, 0)) ?_ ?_ ?_
  · first | rfl | (simp only [LN, NN, NT])
  · first | (simp (disch := first | assumption | decide | with_unfolding_all rfl | omega | (simp only [LN] <;> omega) | (simp only [RO, OF])) only [RR, ↓reduceIte, Nat.reduceEqDiff, Nat.reduceLT, Nat.reduceLeDiff, Nat.reduceAdd, Nat.reduceSub, Nat.reduceMul, Nat.reduceMod, Nat.reduceDiv, Nat.reduceBEq, LN, NN, NT]; done) | (simp (disch := first | assumption | decide | with_unfolding_all rfl | omega | (simp only [LN] <;> omega) | (simp only [RO, OF])) only [RR, ↓reduceIte, Nat.reduceEqDiff, Nat.reduceLT, Nat.reduceLeDiff, Nat.reduceAdd, Nat.reduceSub, Nat.reduceMul, Nat.reduceMod, Nat.reduceDiv, Nat.reduceBEq, LN, fm_app, NN, NT]; done) | rfl
  rintro next k1 hn1 ⟨x7, x8⟩
  let nx1 : Int → Int → Option Int := (fun x7 x8 => next (x7, x8))
  show J _ (mat_Dot_L1 fu x1 x2 nx1 x7 x8) _
  unfold mat_Dot_L1
  conv => arg 1; simp (maxSteps := 1000000) (disch := first | assumption | decide | with_unfolding_all rfl | omega | (simp only [LN] <;> omega) | (simp only [RO, OF])) only [RR, RM, LN, TT, d9_at, ↓reduceIte, Nat.reduceEqDiff, Nat.reduceLT, Nat.reduceLeDiff, Nat.reduceAdd, Nat.reduceSub, Nat.reduceMul, Nat.reduceMod, Nat.reduceDiv, Nat.reduceBEq, RH]
  refine J.eq go_seq ?_
  conv => arg 1; simp (maxSteps := 1000000) (disch := first | assumption | decide | with_unfolding_all rfl | omega | (simp only [LN] <;> omega) | (simp only [RO, OF])) only [RR, RM, LN, TT, d9_at, ↓reduceIte, Nat.reduceEqDiff, Nat.reduceLT, Nat.reduceLeDiff, Nat.reduceAdd, Nat.reduceSub, Nat.reduceMul, Nat.reduceMod, Nat.reduceDiv, Nat.reduceBEq, RH]
  refine J.ite (fun h1 => ?_) (fun h1 => ?_)
  · have h1' := decide_eq_true h1
    have h1'' : decide ((imin (x1.length : Int) (x2.length : Int)) ≤ x8) = false := decide_eq_false (by omega)
    conv => arg 1; simp (maxSteps := 1000000) (disch := first | assumption | decide | with_unfolding_all rfl | omega | (simp only [LN] <;> omega) | (simp only [RO, OF])) only [RR, RM, LN, TT, d9_at, ↓reduceIte, Nat.reduceEqDiff, Nat.reduceLT, Nat.reduceLeDiff, Nat.reduceAdd, Nat.reduceSub, Nat.reduceMul, Nat.reduceMod, Nat.reduceDiv, Nat.reduceBEq, RH, h1'', h1']
    refine J.eq ret_seq ?_
    refine J.eq go_seq ?_
    refine J.at fun x13 h2 h3 h4 => ?_
    refine J.at fun x14 h5 h6 h7 => ?_
    refine J.bind fun x15 h8 => ?_
    have e_h8 := H20_0 _ _ _ h8
    try simp only [NN, NT, LN] at e_h8
    refine J.bind fun x16 h9 => ?_
    have e_h9 := H19_0 _ _ _ h9
    try simp only [NN, NT, LN] at e_h9
    conv => arg 1; simp (maxSteps := 1000000) (disch := first | assumption | decide | with_unfolding_all rfl | omega | (simp only [LN] <;> omega) | (simp only [RO, OF])) only [RR, RM, LN, TT, d9_at, ↓reduceIte, Nat.reduceEqDiff, Nat.reduceLT, Nat.reduceLeDiff, Nat.reduceAdd, Nat.reduceSub, Nat.reduceMul, Nat.reduceMod, Nat.reduceDiv, Nat.reduceBEq, RH, h1'', h1', lm_ik h4, lm_ik h7, e_h8, e_h9]
    refine J.eq ret_seq ?_
    conv => arg 1; simp (maxSteps := 1000000) (disch := first | assumption | decide | with_unfolding_all rfl | omega | (simp only [LN] <;> omega) | (simp only [RO, OF])) only [RR, RM, LN, TT, d9_at, ↓reduceIte, Nat.reduceEqDiff, Nat.reduceLT, Nat.reduceLeDiff, Nat.reduceAdd, Nat.reduceSub, Nat.reduceMul, Nat.reduceMod, Nat.reduceDiv, Nat.reduceBEq, RH, h1'', h1', lm_ik h4, lm_ik h7, e_h8, e_h9]
    refine J.next (s := (x16, wk .i64 (x8 + 1))) hn1 ?_ ?_
    · first | rfl | (simp only [LN, NN, NT])
    · first | (simp (disch := first | assumption | decide | with_unfolding_all rfl | omega | (simp only [LN] <;> omega) | (simp only [RO, OF])) only [RR, ↓reduceIte, Nat.reduceEqDiff, Nat.reduceLT, Nat.reduceLeDiff, Nat.reduceAdd, Nat.reduceSub, Nat.reduceMul, Nat.reduceMod, Nat.reduceDiv, Nat.reduceBEq, LN, NN, NT]; done) | (simp (disch := first | assumption | decide | with_unfolding_all rfl | omega | (simp only [LN] <;> omega) | (simp only [RO, OF])) only [RR, ↓reduceIte, Nat.reduceEqDiff, Nat.reduceLT, Nat.reduceLeDiff, Nat.reduceAdd, Nat.reduceSub, Nat.reduceMul, Nat.reduceMod, Nat.reduceDiv, Nat.reduceBEq, LN, fm_app, NN, NT]; done) | rfl
  · have h1' := decide_eq_false h1
    have h1'' : decide ((imin (x1.length : Int) (x2.length : Int)) ≤ x8) = true := decide_eq_true (by omega)
    conv => arg 1; simp (maxSteps := 1000000) (disch := first | assumption | decide | with_unfolding_all rfl | omega | (simp only [LN] <;> omega) | (simp only [RO, OF])) only [RR, RM, LN, TT, d9_at, ↓reduceIte, Nat.reduceEqDiff, Nat.reduceLT, Nat.reduceLeDiff, Nat.reduceAdd, Nat.reduceSub, Nat.reduceMul, Nat.reduceMod, Nat.reduceDiv, Nat.reduceBEq, RH, h1'', h1']
    refine J.eq ret_seq ?_
    refine J.some ?_
    simp (maxSteps := 20000000) (disch := first | assumption | decide | with_unfolding_all rfl | omega | (simp only [LN] <;> omega) | (simp only [RO, OF])) only [RR, RM, LN, TT, d9_at, ↓reduceIte, Nat.reduceEqDiff, Nat.reduceLT, Nat.reduceLeDiff, Nat.reduceAdd, Nat.reduceSub, Nat.reduceMul, Nat.reduceMod, Nat.reduceDiv, Nat.reduceBEq, RH, h1'', h1', FF, LN, NN, NT]
noncomputable def t9 (fu : Nat) : CallP := orE 20 (mkC (fun (t : Int × Int) => ([.v (.int .u32 t.1), .v (.int .u32 t.2)] : List AV)) (fun t => soft_Mul fu t.1 t.2) e20) (orE 19 (mkC (fun (t : Int × Int) => ([.v (.int .u32 t.1), .v (.int .u32 t.2)] : List AV)) (fun t => soft_Add fu t.1 t.2) e19) (noP))
theorem t9_ok (fu : Nat) : CpOK Tryz.prog (t9 fu ) := orE_ok (orE_ok (noP_ok) (mkC_ok (fun t b h => ok19 fu t.1 t.2  b h))) (mkC_ok (fun t b h => ok20 fu t.1 t.2  b h))
theorem ok9 (fu : Nat) (x1 : List Int) (x2 : List Int) (r) (h : mat_Dot fu x1 x2 = some r) : PureOK Tryz.prog 9 [.arr x1.length (lm (ik .u32) x1), .arr x2.length (lm (ik .u32) x2)] (e9 r) :=
  pure_J mixed (cp := t9 fu ) (t9_ok fu  ) noI_ok i9 (w9 _ fu x1 x2  (fun a0 a1 r h => orE_hit (mkC_at (a := (a0, a1)) (by intro a b h; first | (exact rfl) | (simp only [INJ, IJ] at h; first | exact h | (simp_all [Prod.ext_iff]) )) h)) (fun a0 a1 r h => orE_miss (by decide) (orE_hit (mkC_at (a := (a0, a1)) (by intro a b h; first | (exact rfl) | (simp only [INJ, IJ] at h; first | exact h | (simp_all [Prod.ext_iff]) )) h)))) h
/-! 69: lattice/latticeref01.Below -/
def d69 : List (Nat × List Nat) := [(0, [2]), (0, []), (0, [0, 3, 4])]
def d69_at := And.intro (show d69.getD 0 (0, []) = (0, [2]) from rfl) <| And.intro (show d69.getD 1 (0, []) = (0, []) from rfl) <| (show d69.getD 2 (0, []) = (0, [0, 3, 4]) from rfl)
theorem i69 : finfo Tryz.prog 69 d69 = some ⟨bodyOf Tryz.f69, [.tmp 2], [4]⟩ := finfo_at Tryz.func69 rfl (by kernel_rfl) (by kernel_rfl)
def e69 : Bool → AV := fun r => .v (.bool r)
set_option maxHeartbeats 20000000 in
theorem w69 (cp : CallP) (fu : Nat) (x1 : Int) : J (go Tryz.prog noC cp noI 0 [] d69 fu (fin Tryz.prog [.tmp 2] [4]) (bodyOf Tryz.f69) (initE 0 [.v (.int .u32 x1)]) [] []) (ref01_Below fu x1) e69 := by
  unfold ref01_Below e69
  refine J.some ?_
  simp (maxSteps := 20000000) (disch := first | assumption | decide | with_unfolding_all rfl | omega | (simp only [LN] <;> omega) | (simp only [RO, OF])) only [bodyOf, Tryz.f69, RR, RM, LN, TT, d69_at, ↓reduceIte, Nat.reduceEqDiff, Nat.reduceLT, Nat.reduceLeDiff, Nat.reduceAdd, Nat.reduceSub, Nat.reduceMul, Nat.reduceMod, Nat.reduceDiv, Nat.reduceBEq, RH, FF, LN, NN, NT]
noncomputable def t69 (fu : Nat) : CallP := noP
theorem t69_ok (fu : Nat) : CpOK Tryz.prog (t69 fu ) := noP_ok
theorem ok69 (fu : Nat) (x1 : Int) (r) (h : ref01_Below fu x1 = some r) : PureOK Tryz.prog 69 [.v (.int .u32 x1)] (e69 r) :=
  pure_J mixed (cp := t69 fu ) (t69_ok fu  ) noI_ok i69 (w69 _ fu x1  ) h
/-! 15: lattice/latticeref01.Abs -/
def d15 : List (Nat × List Nat) := [(0, [2]), (0, []), (0, [0, 3, 4])]
def d15_at := And.intro (show d15.getD 0 (0, []) = (0, [2]) from rfl) <| And.intro (show d15.getD 1 (0, []) = (0, []) from rfl) <| (show d15.getD 2 (0, []) = (0, [0, 3, 4]) from rfl)
theorem i15 : finfo Tryz.prog 15 d15 = some ⟨bodyOf Tryz.f15, [.tmp 2], [24]⟩ := finfo_at Tryz.func15 rfl (by kernel_rfl) (by kernel_rfl)
def e15 : Int → AV := fun r => .v (.int .u32 r)
set_option maxHeartbeats 20000000 in
theorem w15 (cp : CallP) (fu : Nat) (x1 : Int) : J (go Tryz.prog noC cp noI 0 [] d15 fu (fin Tryz.prog [.tmp 2] [24]) (bodyOf Tryz.f15) (initE 0 [.v (.int .u32 x1)]) [] []) (ref01_Abs fu x1) e15 := by
  unfold ref01_Abs e15
  refine J.some ?_
  simp (maxSteps := 20000000) (disch := first | assumption | decide | with_unfolding_all rfl | omega | (simp only [LN] <;> omega) | (simp only [RO, OF])) only [bodyOf, Tryz.f15, RR, RM, LN, TT, d15_at, ↓reduceIte, Nat.reduceEqDiff, Nat.reduceLT, Nat.reduceLeDiff, Nat.reduceAdd, Nat.reduceSub, Nat.reduceMul, Nat.reduceMod, Nat.reduceDiv, Nat.reduceBEq, RH, FF, LN, NN, NT]
noncomputable def t15 (fu : Nat) : CallP := noP
theorem t15_ok (fu : Nat) : CpOK Tryz.prog (t15 fu ) := noP_ok
theorem ok15 (fu : Nat) (x1 : Int) (r) (h : ref01_Abs fu x1 = some r) : PureOK Tryz.prog 15 [.v (.int .u32 x1)] (e15 r) :=
  pure_J mixed (cp := t15 fu ) (t15_ok fu  ) noI_ok i15 (w15 _ fu x1  ) h
/-! 67: lattice/latticeref01.IsNone -/
def d67 : List (Nat × List Nat) := [(0, [2]), (0, []), (0, [0, 3, 4, 5])]
def d67_at := And.intro (show d67.getD 0 (0, []) = (0, [2]) from rfl) <| And.intro (show d67.getD 1 (0, []) = (0, []) from rfl) <| (show d67.getD 2 (0, []) = (0, [0, 3, 4, 5]) from rfl)
theorem i67 : finfo Tryz.prog 67 d67 = some ⟨bodyOf Tryz.f67, [.tmp 2], [4]⟩ := finfo_at Tryz.func67 rfl (by kernel_rfl) (by kernel_rfl)
def e67 : Bool → AV := fun r => .v (.bool r)
set_option maxHeartbeats 20000000 in
theorem w67 (cp : CallP) (fu : Nat) (x1 : Int) (H15_0 : ∀ (a0 : Int) r, ref01_Abs fu a0 = some r → cp 15 [.v (.int .u32 a0)] = some (.v (.int .u32 r))) : J (go Tryz.prog noC cp noI 0 [] d67 fu (fin Tryz.prog [.tmp 2] [4]) (bodyOf Tryz.f67) (initE 0 [.v (.int .u32 x1)]) [] []) (ref01_IsNone fu x1) e67 := by
  unfold ref01_IsNone e67
  refine J.bind fun x2 h1 => ?_
  have e_h1 := H15_0 _ _ h1
  try simp only [NN, NT, LN] at e_h1
  refine J.some ?_
  simp (maxSteps := 20000000) (disch := first | assumption | decide | with_unfolding_all rfl | omega | (simp only [LN] <;> omega) | (simp only [RO, OF])) only [bodyOf, Tryz.f67, RR, RM, LN, TT, d67_at, ↓reduceIte, Nat.reduceEqDiff, Nat.reduceLT, Nat.reduceLeDiff, Nat.reduceAdd, Nat.reduceSub, Nat.reduceMul, Nat.reduceMod, Nat.reduceDiv, Nat.reduceBEq, RH, e_h1, FF, LN, NN, NT]
noncomputable def t67 (fu : Nat) : CallP := orE 15 (mkC (fun (t : Int) => ([.v (.int .u32 t)] : List AV)) (fun t => ref01_Abs fu t) e15) (noP)
theorem t67_ok (fu : Nat) : CpOK Tryz.prog (t67 fu ) := orE_ok (noP_ok) (mkC_ok (fun t b h => ok15 fu t  b h))
theorem ok67 (fu : Nat) (x1 : Int) (r) (h : ref01_IsNone fu x1 = some r) : PureOK Tryz.prog 67 [.v (.int .u32 x1)] (e67 r) :=
  pure_J mixed (cp := t67 fu ) (t67_ok fu  ) noI_ok i67 (w67 _ fu x1  (fun a0 r h => orE_hit (mkC_at (a := a0) (by intro a b h; first | (exact rfl) | (simp only [INJ, IJ] at h; first | exact h | (simp_all [Prod.ext_iff]) )) h))) h
/-! 75: lattice/latticeref01.signed -/
def d75 : List (Nat × List Nat) := [(0, [4]), (0, []), (0, [0]), (0, []), (0, [6, 7]), (0, []), (0, [1, 8])]
def d75_at := And.intro (show d75.getD 0 (0, []) = (0, [4]) from rfl) <| And.intro (show d75.getD 1 (0, []) = (0, []) from rfl) <| And.intro (show d75.getD 2 (0, []) = (0, [0]) from rfl) <| And.intro (show d75.getD 3 (0, []) = (0, []) from rfl) <| And.intro (show d75.getD 4 (0, []) = (0, [6, 7]) from rfl) <| And.intro (show d75.getD 5 (0, []) = (0, []) from rfl) <| (show d75.getD 6 (0, []) = (0, [1, 8]) from rfl)
theorem i75 : finfo Tryz.prog 75 d75 = some ⟨bodyOf Tryz.f75, [.tmp 4], [24]⟩ := finfo_at Tryz.func75 rfl (by kernel_rfl) (by kernel_rfl)
def e75 : Int → AV := fun r => .v (.int .u32 r)
set_option maxHeartbeats 20000000 in
theorem w75 (cp : CallP) (fu : Nat) (x1 : Bool) (x2 : Int) : J (go Tryz.prog noC cp noI 0 [] d75 fu (fin Tryz.prog [.tmp 4] [24]) (bodyOf Tryz.f75) (initE 0 [.v (.bool x1), .v (.int .u32 x2)]) [] []) (ref01_signed fu x1 x2) e75 := by
  unfold ref01_signed e75
  conv => arg 1; simp (maxSteps := 1000000) (disch := first | assumption | decide | with_unfolding_all rfl | omega | (simp only [LN] <;> omega) | (simp only [RO, OF])) only [bodyOf, Tryz.f75, RR, RM, LN, TT, d75_at, ↓reduceIte, Nat.reduceEqDiff, Nat.reduceLT, Nat.reduceLeDiff, Nat.reduceAdd, Nat.reduceSub, Nat.reduceMul, Nat.reduceMod, Nat.reduceDiv, Nat.reduceBEq, RH]
  refine J.eq go_seq ?_
  conv => arg 1; simp (maxSteps := 1000000) (disch := first | assumption | decide | with_unfolding_all rfl | omega | (simp only [LN] <;> omega) | (simp only [RO, OF])) only [RR, RM, LN, TT, d75_at, ↓reduceIte, Nat.reduceEqDiff, Nat.reduceLT, Nat.reduceLeDiff, Nat.reduceAdd, Nat.reduceSub, Nat.reduceMul, Nat.reduceMod, Nat.reduceDiv, Nat.reduceBEq, RH]
  refine J.ite (fun h1 => ?_) (fun h1 => ?_)
  · have h1' : x1 = true := h1
    refine J.some ?_
    simp (maxSteps := 20000000) (disch := first | assumption | decide | with_unfolding_all rfl | omega | (simp only [LN] <;> omega) | (simp only [RO, OF])) only [RR, RM, LN, TT, d75_at, ↓reduceIte, Nat.reduceEqDiff, Nat.reduceLT, Nat.reduceLeDiff, Nat.reduceAdd, Nat.reduceSub, Nat.reduceMul, Nat.reduceMod, Nat.reduceDiv, Nat.reduceBEq, RH, h1', FF, LN, NN, NT]
  · have h1' : x1 = false := Bool.eq_false_iff.2 h1
    conv => arg 1; simp (maxSteps := 1000000) (disch := first | assumption | decide | with_unfolding_all rfl | omega | (simp only [LN] <;> omega) | (simp only [RO, OF])) only [RR, RM, LN, TT, d75_at, ↓reduceIte, Nat.reduceEqDiff, Nat.reduceLT, Nat.reduceLeDiff, Nat.reduceAdd, Nat.reduceSub, Nat.reduceMul, Nat.reduceMod, Nat.reduceDiv, Nat.reduceBEq, RH, h1']
    refine J.eq ret_seq ?_
    refine J.some ?_
    simp (maxSteps := 20000000) (disch := first | assumption | decide | with_unfolding_all rfl | omega | (simp only [LN] <;> omega) | (simp only [RO, OF])) only [RR, RM, LN, TT, d75_at, ↓reduceIte, Nat.reduceEqDiff, Nat.reduceLT, Nat.reduceLeDiff, Nat.reduceAdd, Nat.reduceSub, Nat.reduceMul, Nat.reduceMod, Nat.reduceDiv, Nat.reduceBEq, RH, h1', FF, LN, NN, NT]
noncomputable def t75 (fu : Nat) : CallP := noP
theorem t75_ok (fu : Nat) : CpOK Tryz.prog (t75 fu ) := noP_ok
theorem ok75 (fu : Nat) (x1 : Bool) (x2 : Int) (r) (h : ref01_signed fu x1 x2 = some r) : PureOK Tryz.prog 75 [.v (.bool x1), .v (.int .u32 x2)] (e75 r) :=
  pure_J mixed (cp := t75 fu ) (t75_ok fu  ) noI_ok i75 (w75 _ fu x1 x2  ) h
/-! 132: lattice/latticeref01.trim -/
def d132 : List (Nat × List Nat) := [(0, [2]), (0, []), (0, [4, 5]), (0, []), (0, [6, 7, 8, 9, 10, 11, 12, 13, 14]), (0, []), (0, [16, 17]), (0, []), (0, [0, 3, 18, 19, 20])]
def d132_at := And.intro (show d132.getD 0 (0, []) = (0, [2]) from rfl) <| And.intro (show d132.getD 1 (0, []) = (0, []) from rfl) <| And.intro (show d132.getD 2 (0, []) = (0, [4, 5]) from rfl) <| And.intro (show d132.getD 3 (0, []) = (0, []) from rfl) <| And.intro (show d132.getD 4 (0, []) = (0, [6, 7, 8, 9, 10, 11, 12, 13, 14]) from rfl) <| And.intro (show d132.getD 5 (0, []) = (0, []) from rfl) <| And.intro (show d132.getD 6 (0, []) = (0, [16, 17]) from rfl) <| And.intro (show d132.getD 7 (0, []) = (0, []) from rfl) <| (show d132.getD 8 (0, []) = (0, [0, 3, 18, 19, 20]) from rfl)
theorem i132 : finfo Tryz.prog 132 d132 = some ⟨bodyOf Tryz.f132, [.tmp 2], [98]⟩ := finfo_at Tryz.func132 rfl (by kernel_rfl) (by kernel_rfl)
def e132 : (List Int) → AV := fun r => .arr r.length (lm (ik .u32) r)
set_option maxHeartbeats 20000000 in
theorem w132 (cp : CallP) (fu : Nat) (x1 : List Int) : J (go Tryz.prog noC cp noI 0 [] d132 fu (fin Tryz.prog [.tmp 2] [98]) (bodyOf Tryz.f132) (initE 0 [.arr x1.length (lm (ik .u32) x1)]) [] []) (ref01_trim fu x1) e132 := by
  unfold ref01_trim e132
  conv => arg 1; simp (maxSteps := 1000000) (disch := first | assumption | decide | with_unfolding_all rfl | omega | (simp only [LN] <;> omega) | (simp only [RO, OF])) only [bodyOf, Tryz.f132, RR, RM, LN, TT, d132_at, ↓reduceIte, Nat.reduceEqDiff, Nat.reduceLT, Nat.reduceLeDiff, Nat.reduceAdd, Nat.reduceSub, Nat.reduceMul, Nat.reduceMod, Nat.reduceDiv, Nat.reduceBEq, RH]
  refine J.eq go_seq ?_
  conv => arg 1; simp (maxSteps := 1000000) (disch := first | assumption | decide | with_unfolding_all rfl | omega | (simp only [LN] <;> omega) | (simp only [RO, OF])) only [RR, RM, LN, TT, d132_at, ↓reduceIte, Nat.reduceEqDiff, Nat.reduceLT, Nat.reduceLeDiff, Nat.reduceAdd, Nat.reduceSub, Nat.reduceMul, Nat.reduceMod, Nat.reduceDiv, Nat.reduceBEq, RH]
  unfold ref01_trim_W1
  refine J.loop (fun (s : Int) => ([(0, .arr x1.length (lm (ik .u32) x1)), (3, .v (.int .i64 s))], [])) (fun next s => ref01_trim_L1 fu x1 next s) (s0 := (x1.length : Int)) ?_ ?_ ?_
  · first | rfl | (simp only [LN, NN, NT])
  · first | (simp (disch := first | assumption | decide | with_unfolding_all rfl | omega | (simp only [LN] <;> omega) | (simp only [RO, OF])) only [RR, ↓reduceIte, Nat.reduceEqDiff, Nat.reduceLT, Nat.reduceLeDiff, Nat.reduceAdd, Nat.reduceSub, Nat.reduceMul, Nat.reduceMod, Nat.reduceDiv, Nat.reduceBEq, LN, NN, NT]; done) | (simp (disch := first | assumption | decide | with_unfolding_all rfl | omega | (simp only [LN] <;> omega) | (simp only [RO, OF])) only [RR, ↓reduceIte, Nat.reduceEqDiff, Nat.reduceLT, Nat.reduceLeDiff, Nat.reduceAdd, Nat.reduceSub, Nat.reduceMul, Nat.reduceMod, Nat.reduceDiv, Nat.reduceBEq, LN, fm_app, NN, NT]; done) | rfl
  rintro nx1 k1 hn1 x3
  show J _ (ref01_trim_L1 fu x1 nx1 x3) _
  unfold ref01_trim_L1
  refine J.eq go_seq ?_
  refine J.eq go_seq ?_
  conv => arg 1; simp (maxSteps := 1000000) (disch := first | assumption | decide | with_unfolding_all rfl | omega | (simp only [LN] <;> omega) | (simp only [RO, OF])) only [RR, RM, LN, TT, d132_at, ↓reduceIte, Nat.reduceEqDiff, Nat.reduceLT, Nat.reduceLeDiff, Nat.reduceAdd, Nat.reduceSub, Nat.reduceMul, Nat.reduceMod, Nat.reduceDiv, Nat.reduceBEq, RH]
  refine J.ite (fun h1 => ?_) (fun h1 => ?_)
  · have h1' := decide_eq_true h1
    have h1'' : decide (x3 ≤ 0) = false := decide_eq_false (by omega)
    refine J.at fun x5 h2 h3 h4 => ?_
    conv => arg 1; simp (maxSteps := 1000000) (disch := first | assumption | decide | with_unfolding_all rfl | omega | (simp only [LN] <;> omega) | (simp only [RO, OF])) only [RR, RM, LN, TT, d132_at, ↓reduceIte, Nat.reduceEqDiff, Nat.reduceLT, Nat.reduceLeDiff, Nat.reduceAdd, Nat.reduceSub, Nat.reduceMul, Nat.reduceMod, Nat.reduceDiv, Nat.reduceBEq, RH, h1'', h1', lm_ik h4]
    refine J.eq ret_seq ?_
    conv => arg 1; simp (maxSteps := 1000000) (disch := first | assumption | decide | with_unfolding_all rfl | omega | (simp only [LN] <;> omega) | (simp only [RO, OF])) only [RR, RM, LN, TT, d132_at, ↓reduceIte, Nat.reduceEqDiff, Nat.reduceLT, Nat.reduceLeDiff, Nat.reduceAdd, Nat.reduceSub, Nat.reduceMul, Nat.reduceMod, Nat.reduceDiv, Nat.reduceBEq, RH, h1'', h1', lm_ik h4]
    refine J.ite (fun h5 => ?_) (fun h5 => ?_)
    · have h5' := decide_eq_true h5
      conv => arg 1; simp (maxSteps := 1000000) (disch := first | assumption | decide | with_unfolding_all rfl | omega | (simp only [LN] <;> omega) | (simp only [RO, OF])) only [RR, RM, LN, TT, d132_at, ↓reduceIte, Nat.reduceEqDiff, Nat.reduceLT, Nat.reduceLeDiff, Nat.reduceAdd, Nat.reduceSub, Nat.reduceMul, Nat.reduceMod, Nat.reduceDiv, Nat.reduceBEq, RH, h1'', h1', lm_ik h4, h5']
      refine J.eq ret_seq ?_
      conv => arg 1; simp (maxSteps := 1000000) (disch := first | assumption | decide | with_unfolding_all rfl | omega | (simp only [LN] <;> omega) | (simp only [RO, OF])) only [RR, RM, LN, TT, d132_at, ↓reduceIte, Nat.reduceEqDiff, Nat.reduceLT, Nat.reduceLeDiff, Nat.reduceAdd, Nat.reduceSub, Nat.reduceMul, Nat.reduceMod, Nat.reduceDiv, Nat.reduceBEq, RH, h1'', h1', lm_ik h4, h5']
      refine J.next (s := wk .i64 (x3 - 1)) hn1 ?_ ?_
      · first | rfl | (simp only [LN, NN, NT])
      · first | (simp (disch := first | assumption | decide | with_unfolding_all rfl | omega | (simp only [LN] <;> omega) | (simp only [RO, OF])) only [RR, ↓reduceIte, Nat.reduceEqDiff, Nat.reduceLT, Nat.reduceLeDiff, Nat.reduceAdd, Nat.reduceSub, Nat.reduceMul, Nat.reduceMod, Nat.reduceDiv, Nat.reduceBEq, LN, NN, NT]; done) | (simp (disch := first | assumption | decide | with_unfolding_all rfl | omega | (simp only [LN] <;> omega) | (simp only [RO, OF])) only [RR, ↓reduceIte, Nat.reduceEqDiff, Nat.reduceLT, Nat.reduceLeDiff, Nat.reduceAdd, Nat.reduceSub, Nat.reduceMul, Nat.reduceMod, Nat.reduceDiv, Nat.reduceBEq, LN, fm_app, NN, NT]; done) | rfl
    · have h5' := decide_eq_false h5
      conv => arg 1; simp (maxSteps := 1000000) (disch := first | assumption | decide | with_unfolding_all rfl | omega | (simp only [LN] <;> omega) | (simp only [RO, OF])) only [RR, RM, LN, TT, d132_at, ↓reduceIte, Nat.reduceEqDiff, Nat.reduceLT, Nat.reduceLeDiff, Nat.reduceAdd, Nat.reduceSub, Nat.reduceMul, Nat.reduceMod, Nat.reduceDiv, Nat.reduceBEq, RH, h1'', h1', lm_ik h4, h5']
      refine J.eq ret_seq ?_
      refine J.chk fun h6 => ?_
      refine J.some ?_
      simp (maxSteps := 20000000) (disch := first | assumption | decide | with_unfolding_all rfl | omega | (simp only [LN] <;> omega) | (simp only [RO, OF])) only [RR, RM, LN, TT, d132_at, ↓reduceIte, Nat.reduceEqDiff, Nat.reduceLT, Nat.reduceLeDiff, Nat.reduceAdd, Nat.reduceSub, Nat.reduceMul, Nat.reduceMod, Nat.reduceDiv, Nat.reduceBEq, RH, h1'', h1', lm_ik h4, h5', FF, LN, NN, NT]
  · have h1' := decide_eq_false h1
    have h1'' : decide (x3 ≤ 0) = true := decide_eq_true (by omega)
    conv => arg 1; simp (maxSteps := 1000000) (disch := first | assumption | decide | with_unfolding_all rfl | omega | (simp only [LN] <;> omega) | (simp only [RO, OF])) only [RR, RM, LN, TT, d132_at, ↓reduceIte, Nat.reduceEqDiff, Nat.reduceLT, Nat.reduceLeDiff, Nat.reduceAdd, Nat.reduceSub, Nat.reduceMul, Nat.reduceMod, Nat.reduceDiv, Nat.reduceBEq, RH, h1'', h1']
    refine J.eq ret_seq ?_
    conv => arg 1; simp (maxSteps := 1000000) (disch := first | assumption | decide | with_unfolding_all rfl | omega | (simp only [LN] <;> omega) | (simp only [RO, OF])) only [RR, RM, LN, TT, d132_at, ↓reduceIte, Nat.reduceEqDiff, Nat.reduceLT, Nat.reduceLeDiff, Nat.reduceAdd, Nat.reduceSub, Nat.reduceMul, Nat.reduceMod, Nat.reduceDiv, Nat.reduceBEq, RH, h1'', h1']
    refine J.eq ret_seq ?_
    refine J.chk fun h7 => ?_
    refine J.some ?_
    simp (maxSteps := 20000000) (disch := first | assumption | decide | with_unfolding_all rfl | omega | (simp only [LN] <;> omega) | (simp only [RO, OF])) only [RR, RM, LN, TT, d132_at, ↓reduceIte, Nat.reduceEqDiff, Nat.reduceLT, Nat.reduceLeDiff, Nat.reduceAdd, Nat.reduceSub, Nat.reduceMul, Nat.reduceMod, Nat.reduceDiv, Nat.reduceBEq, RH, h1'', h1', FF, LN, NN, NT]
noncomputable def t132 (fu : Nat) : CallP := noP
theorem t132_ok (fu : Nat) : CpOK Tryz.prog (t132 fu ) := noP_ok
theorem ok132 (fu : Nat) (x1 : List Int) (r) (h : ref01_trim fu x1 = some r) : PureOK Tryz.prog 132 [.arr x1.length (lm (ik .u32) x1)] (e132 r) :=
  pure_J mixed (cp := t132 fu ) (t132_ok fu  ) noI_ok i132 (w132 _ fu x1  ) h
end Go.Av
