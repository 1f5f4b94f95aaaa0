/- The walks of the plain functions. Made by a program of mine. Conditions: none. -/
import Derived.Test.YteiabmkcmmbbjaaGreatQ3S
import Derived.Test.YteiabmkcmmbbjaaGreatQ3A
import Derived.Test.YteiabmkcmmbbjaaGreatProg
set_option linter.unusedVariables false
set_option linter.unusedSimpArgs false
set_option linter.defProp false
set_option maxRecDepth 4000
open Go Go.Proofs
namespace Go.Av
theorem mixed : Tryz.prog.follows .mixedOrders = true := by kernel_rfl
def bodyOf (f : Func) : Code := f.body.getD .skip
theorem tv3 : tview Tryz.prog 3 = some (.int .i64) := by kernel_rfl
theorem ts3 : tsize Tryz.prog 3 = 1 := by kernel_rfl
theorem pt3 : ∀ {xs : List AV} {off : Nat}, part Tryz.prog xs 3 off = xs[off]? := part_one (fun _ _ h => by rw [tv3] at h; cases h) (by rw [tv3]; trivial)
theorem st3 : ∀ {h : Heap} {id : Id} {off ext : Nat} {k : IntKind} {z : Int}, stX Tryz.prog 3 h (.ptr id off ext) (.v (.int k z)) = (h.get id).bind (stI h id off ext (.v (.int k z))) := stX_int ts3
theorem tv4 : tview Tryz.prog 4 = some (.bool) := by kernel_rfl
theorem ts4 : tsize Tryz.prog 4 = 1 := by kernel_rfl
theorem pt4 : ∀ {xs : List AV} {off : Nat}, part Tryz.prog xs 4 off = xs[off]? := part_one (fun _ _ h => by rw [tv4] at h; cases h) (by rw [tv4]; trivial)
theorem st4 : ∀ {h : Heap} {id : Id} {off ext : Nat} {k : IntKind} {z : Int}, stX Tryz.prog 4 h (.ptr id off ext) (.v (.int k z)) = (h.get id).bind (stI h id off ext (.v (.int k z))) := stX_int ts4
theorem sb4 : ∀ {h : Heap} {id : Id} {off ext : Nat} {z : Bool}, stX Tryz.prog 4 h (.ptr id off ext) (.v (.bool z)) = (h.get id).bind (stI h id off ext (.v (.bool z))) := stX_bool ts4
theorem tv5 : tview Tryz.prog 5 = some (.int .u8) := by kernel_rfl
theorem ts5 : tsize Tryz.prog 5 = 1 := by kernel_rfl
theorem pt5 : ∀ {xs : List AV} {off : Nat}, part Tryz.prog xs 5 off = xs[off]? := part_one (fun _ _ h => by rw [tv5] at h; cases h) (by rw [tv5]; trivial)
theorem st5 : ∀ {h : Heap} {id : Id} {off ext : Nat} {k : IntKind} {z : Int}, stX Tryz.prog 5 h (.ptr id off ext) (.v (.int k z)) = (h.get id).bind (stI h id off ext (.v (.int k z))) := stX_int ts5
theorem tv9 : tview Tryz.prog 9 = some (.str) := by kernel_rfl
theorem ts9 : tsize Tryz.prog 9 = 1 := by kernel_rfl
theorem pt9 : ∀ {xs : List AV} {off : Nat}, part Tryz.prog xs 9 off = xs[off]? := part_one (fun _ _ h => by rw [tv9] at h; cases h) (by rw [tv9]; trivial)
theorem ix9 : ∀ {s : ByteArray} {i : Int}, aindex Tryz.prog 9 (.v (.string s)) i = aixS s i := ix_str tv9
theorem st9 : ∀ {h : Heap} {id : Id} {off ext : Nat} {k : IntKind} {z : Int}, stX Tryz.prog 9 h (.ptr id off ext) (.v (.int k z)) = (h.get id).bind (stI h id off ext (.v (.int k z))) := stX_int ts9
theorem tv22 : tview Tryz.prog 22 = some (.slice 24 1 4) := by kernel_rfl
theorem ts22 : tsize Tryz.prog 22 = 1 := by kernel_rfl
theorem pt22 : ∀ {xs : List AV} {off : Nat}, part Tryz.prog xs 22 off = xs[off]? := part_one (fun _ _ h => by rw [tv22] at h; cases h) (by rw [tv22]; trivial)
theorem ia22 : ∀ {m : Nat} {xs : List AV} {i : Int} {g : Id → Option Blk}, 0 ≤ i → i < m → aindexAddr Tryz.prog 22 g (.arr m xs) i = some (.ref xs (i.toNat * 1)) := ia_any tv22
theorem io22 : ∀ {id : Id} {off m ext : Nat} {i : Int} {g : Id → Option Blk}, aindexAddr Tryz.prog 22 g (.own id off m ext) i = (g id).bind (iaB id off m ext 1 i) := ia_own tv22
theorem le22 : ∀ {x : AV}, abuiltin Tryz.prog .len #[22] [x] = (alen x).bind fun n => some (.v (.int .i64 n)) := len_at tv22
theorem tz24 : tzero Tryz.prog 24 = some [.v (.int .u32 0)] := by kernel_rfl
theorem mk22 : ∀ {a b : Int} {k k' : IntKind}, 0 ≤ a → a ≤ b → b ≤ 140737488355328 → b * 4 ≤ 140737488355328 → mkX Tryz.prog 22 (.v (.int k a)) (.v (.int k' b)) = some (.fresh 1 a.toNat (lm (ik .u32) (List.replicate a.toNat 0))) := mk_ik tv22 tz24
theorem ap22 : ∀ {lvl d : Nat} {h : Heap} {x y : AV}, appX Tryz.prog lvl d 22 22 h x y = (newsOf h.get y).bind (appN lvl d 1 4 h x (inner h.get y)) := appX_at tv22 tz24 rfl (by decide)
theorem bs22 : ∀ {len : Nat} {parts : List (Nat × AV)}, len * 1 ≤ 16777216 → abuildSlice Tryz.prog 22 len parts = (afill (elP 1) (List.replicate len [.v (.int .u32 0)]).flatten parts).bind (bslE 1 len) := fun h => bsl_at tv22 tz24 h rfl (by decide)
theorem st22 : ∀ {h : Heap} {id : Id} {off ext : Nat} {k : IntKind} {z : Int}, stX Tryz.prog 22 h (.ptr id off ext) (.v (.int k z)) = (h.get id).bind (stI h id off ext (.v (.int k z))) := stX_int ts22
theorem sa22 : ∀ {h : Heap} {id : Id} {off ext m : Nat} {xs : List AV}, stX Tryz.prog 22 h (.ptr id off ext) (.arr m xs) = (h.get id).bind (stI h id off ext (.arr m xs)) := stX_arr ts22
theorem so22 : ∀ {h : Heap} {id j : Id} {off ext o m x : Nat}, stX Tryz.prog 22 h (.ptr id off ext) (.own j o m x) = (h.get id).bind (stO h id off ext (.own j o m x)) := stX_own ts22
theorem tv24 : tview Tryz.prog 24 = some (.int .u32) := by kernel_rfl
theorem ts24 : tsize Tryz.prog 24 = 1 := by kernel_rfl
theorem pt24 : ∀ {xs : List AV} {off : Nat}, part Tryz.prog xs 24 off = xs[off]? := part_one (fun _ _ h => by rw [tv24] at h; cases h) (by rw [tv24]; trivial)
theorem st24 : ∀ {h : Heap} {id : Id} {off ext : Nat} {k : IntKind} {z : Int}, stX Tryz.prog 24 h (.ptr id off ext) (.v (.int k z)) = (h.get id).bind (stI h id off ext (.v (.int k z))) := stX_int ts24
theorem tv49 : tview Tryz.prog 49 = some (.array 4 24 1) := by kernel_rfl
theorem ts49 : tsize Tryz.prog 49 = 4 := by kernel_rfl
theorem pt49 : ∀ {xs : List AV} {off : Nat}, part Tryz.prog xs 49 off = if off + 4 ≤ xs.length then some (.agg ((xs.drop off).take 4)) else none := part_arr tv49 ts49
theorem tv96 : tview Tryz.prog 96 = some (.int .u64) := by kernel_rfl
theorem ts96 : tsize Tryz.prog 96 = 1 := by kernel_rfl
theorem pt96 : ∀ {xs : List AV} {off : Nat}, part Tryz.prog xs 96 off = xs[off]? := part_one (fun _ _ h => by rw [tv96] at h; cases h) (by rw [tv96]; trivial)
theorem st96 : ∀ {h : Heap} {id : Id} {off ext : Nat} {k : IntKind} {z : Int}, stX Tryz.prog 96 h (.ptr id off ext) (.v (.int k z)) = (h.get id).bind (stI h id off ext (.v (.int k z))) := stX_int ts96
theorem tv98 : tview Tryz.prog 98 = some (.struct) := by kernel_rfl
theorem ts98 : tsize Tryz.prog 98 = 5 := by kernel_rfl
theorem pt98 : ∀ {xs : List AV} {off : Nat}, part Tryz.prog xs 98 off = if off + 5 ≤ xs.length then some (.agg ((xs.drop off).take 5)) else none := part_struct tv98 ts98
theorem sg98 : ∀ {h : Heap} {id : Id} {off : Nat} {ys : List AV}, ys.length = 5 → stX Tryz.prog 98 h (.ptr id off 0) (.agg ys) = (h.get id).bind (stH Tryz.prog 98 h id off ys) := stX_aggH ts98 (by decide)
theorem tv119 : tview Tryz.prog 119 = some (.slice 24 1 4) := by kernel_rfl
theorem ts119 : tsize Tryz.prog 119 = 1 := by kernel_rfl
theorem pt119 : ∀ {xs : List AV} {off : Nat}, part Tryz.prog xs 119 off = xs[off]? := part_one (fun _ _ h => by rw [tv119] at h; cases h) (by rw [tv119]; trivial)
theorem ia119 : ∀ {m : Nat} {xs : List AV} {i : Int} {g : Id → Option Blk}, 0 ≤ i → i < m → aindexAddr Tryz.prog 119 g (.arr m xs) i = some (.ref xs (i.toNat * 1)) := ia_any tv119
theorem io119 : ∀ {id : Id} {off m ext : Nat} {i : Int} {g : Id → Option Blk}, aindexAddr Tryz.prog 119 g (.own id off m ext) i = (g id).bind (iaB id off m ext 1 i) := ia_own tv119
theorem le119 : ∀ {x : AV}, abuiltin Tryz.prog .len #[119] [x] = (alen x).bind fun n => some (.v (.int .i64 n)) := len_at tv119
theorem mk119 : ∀ {a b : Int} {k k' : IntKind}, 0 ≤ a → a ≤ b → b ≤ 140737488355328 → b * 4 ≤ 140737488355328 → mkX Tryz.prog 119 (.v (.int k a)) (.v (.int k' b)) = some (.fresh 1 a.toNat (lm (ik .u32) (List.replicate a.toNat 0))) := mk_ik tv119 tz24
theorem ap119 : ∀ {lvl d : Nat} {h : Heap} {x y : AV}, appX Tryz.prog lvl d 119 119 h x y = (newsOf h.get y).bind (appN lvl d 1 4 h x (inner h.get y)) := appX_at tv119 tz24 rfl (by decide)
theorem bs119 : ∀ {len : Nat} {parts : List (Nat × AV)}, len * 1 ≤ 16777216 → abuildSlice Tryz.prog 119 len parts = (afill (elP 1) (List.replicate len [.v (.int .u32 0)]).flatten parts).bind (bslE 1 len) := fun h => bsl_at tv119 tz24 h rfl (by decide)
theorem ao119 : ∀ {off m ext : Nat} {id : Id} {lo hi : Option AV} {g : Id → Option Blk}, aslice Tryz.prog 119 g (.own id off m ext) lo hi = (g id).bind fun b => (sliceLim lo 0).bind fun l => (sliceLim hi m).bind fun r => slO id off ext 1 l r b := asl_own tv119
theorem as119 : ∀ {m : Nat} {xs : List AV} {lo hi : Option AV} {g : Id → Option Blk}, aslice Tryz.prog 119 g (.arr m xs) lo hi = (sliceLim lo 0).bind fun l => (sliceLim hi m).bind fun r => slA 1 m xs l r := asl_arr tv119
theorem st119 : ∀ {h : Heap} {id : Id} {off ext : Nat} {k : IntKind} {z : Int}, stX Tryz.prog 119 h (.ptr id off ext) (.v (.int k z)) = (h.get id).bind (stI h id off ext (.v (.int k z))) := stX_int ts119
theorem sa119 : ∀ {h : Heap} {id : Id} {off ext m : Nat} {xs : List AV}, stX Tryz.prog 119 h (.ptr id off ext) (.arr m xs) = (h.get id).bind (stI h id off ext (.arr m xs)) := stX_arr ts119
theorem so119 : ∀ {h : Heap} {id j : Id} {off ext o m x : Nat}, stX Tryz.prog 119 h (.ptr id off ext) (.own j o m x) = (h.get id).bind (stO h id off ext (.own j o m x)) := stX_own ts119
theorem iz49_0 : ∀ {g : Id → Option Blk} {id : Id} {off ext : Nat}, aindexAddr Tryz.prog 49 g (.ptr id off ext) 0 = (g id).bind (fiB id off ext 0) := iz_ptr tv49 (c := 0) (by decide)
theorem iz49_1 : ∀ {g : Id → Option Blk} {id : Id} {off ext : Nat}, aindexAddr Tryz.prog 49 g (.ptr id off ext) 1 = (g id).bind (fiB id off ext 1) := iz_ptr tv49 (c := 1) (by decide)
theorem iz49_2 : ∀ {g : Id → Option Blk} {id : Id} {off ext : Nat}, aindexAddr Tryz.prog 49 g (.ptr id off ext) 2 = (g id).bind (fiB id off ext 2) := iz_ptr tv49 (c := 2) (by decide)
theorem iz49_3 : ∀ {g : Id → Option Blk} {id : Id} {off ext : Nat}, aindexAddr Tryz.prog 49 g (.ptr id off ext) 3 = (g id).bind (fiB id off ext 3) := iz_ptr tv49 (c := 3) (by decide)
theorem fo98_0 : fieldOf Tryz.prog 98 0 = some (0, 4) := by kernel_rfl
theorem fp98_0 : ∀ {g : Id → Option Blk} {id : Id} {off ext : Nat}, afield Tryz.prog 98 g (.ptr id off ext) 0 = (g id).bind (fiB id off ext 0) := af_ptr fo98_0 (by rw [ts4]; decide)
theorem fr98_0 : ∀ {g : Id → Option Blk} {xs : List AV} {off : Nat}, afield Tryz.prog 98 g (.ref xs off) 0 = some (.ref xs (off + 0)) := af_ref fo98_0 (by rw [ts4]; decide)
theorem fo98_1 : fieldOf Tryz.prog 98 1 = some (1, 4) := by kernel_rfl
theorem fp98_1 : ∀ {g : Id → Option Blk} {id : Id} {off ext : Nat}, afield Tryz.prog 98 g (.ptr id off ext) 1 = (g id).bind (fiB id off ext 1) := af_ptr fo98_1 (by rw [ts4]; decide)
theorem fr98_1 : ∀ {g : Id → Option Blk} {xs : List AV} {off : Nat}, afield Tryz.prog 98 g (.ref xs off) 1 = some (.ref xs (off + 1)) := af_ref fo98_1 (by rw [ts4]; decide)
theorem fo98_2 : fieldOf Tryz.prog 98 2 = some (2, 4) := by kernel_rfl
theorem fp98_2 : ∀ {g : Id → Option Blk} {id : Id} {off ext : Nat}, afield Tryz.prog 98 g (.ptr id off ext) 2 = (g id).bind (fiB id off ext 2) := af_ptr fo98_2 (by rw [ts4]; decide)
theorem fr98_2 : ∀ {g : Id → Option Blk} {xs : List AV} {off : Nat}, afield Tryz.prog 98 g (.ref xs off) 2 = some (.ref xs (off + 2)) := af_ref fo98_2 (by rw [ts4]; decide)
theorem fo98_3 : fieldOf Tryz.prog 98 3 = some (3, 3) := by kernel_rfl
theorem fp98_3 : ∀ {g : Id → Option Blk} {id : Id} {off ext : Nat}, afield Tryz.prog 98 g (.ptr id off ext) 3 = (g id).bind (fiB id off ext 3) := af_ptr fo98_3 (by rw [ts3]; decide)
theorem fr98_3 : ∀ {g : Id → Option Blk} {xs : List AV} {off : Nat}, afield Tryz.prog 98 g (.ref xs off) 3 = some (.ref xs (off + 3)) := af_ref fo98_3 (by rw [ts3]; decide)
theorem fo98_4 : fieldOf Tryz.prog 98 4 = some (4, 96) := by kernel_rfl
theorem fp98_4 : ∀ {g : Id → Option Blk} {id : Id} {off ext : Nat}, afield Tryz.prog 98 g (.ptr id off ext) 4 = (g id).bind (fiB id off ext 4) := af_ptr fo98_4 (by rw [ts96]; decide)
theorem fr98_4 : ∀ {g : Id → Option Blk} {xs : List AV} {off : Nat}, afield Tryz.prog 98 g (.ref xs off) 4 = some (.ref xs (off + 4)) := af_ref fo98_4 (by rw [ts96]; decide)
theorem tz98 : tzero Tryz.prog 98 = some [.v (.bool false), .v (.bool false), .v (.bool false), .v (.int .i64 0), .v (.int .u64 0)] := by kernel_rfl
theorem bl98 : ∀ {parts : List (Nat × AV)}, abuild Tryz.prog 98 parts = (afill (flP Tryz.prog 98) [.v (.bool false), .v (.bool false), .v (.bool false), .v (.int .i64 0), .v (.int .u64 0)] parts).bind fun xs => some (.agg xs) := bld_struct tz98 tv98
theorem fl98_0 : flP Tryz.prog 98 0 = some (0, 1) := by unfold flP; rw [fo98_0]; rfl
theorem fl98_1 : flP Tryz.prog 98 1 = some (1, 1) := by unfold flP; rw [fo98_1]; rfl
theorem fl98_2 : flP Tryz.prog 98 2 = some (2, 1) := by unfold flP; rw [fo98_2]; rfl
theorem fl98_3 : flP Tryz.prog 98 3 = some (3, 1) := by unfold flP; rw [fo98_3]; rfl
theorem fl98_4 : flP Tryz.prog 98 4 = some (4, 1) := by unfold flP; rw [fo98_4]; rfl
theorem tz49 : tzero Tryz.prog 49 = some [.v (.int .u32 0), .v (.int .u32 0), .v (.int .u32 0), .v (.int .u32 0)] := by kernel_rfl
theorem al49 {C : Cfg} {cp : CallP} {ci : CallI} {lvl : Nat} {e : Env} {h : Heap} {d : Option Tmp} : aop Tryz.prog C cp ci lvl e h d (.alloc 49) = qo lvl (d.getD 0) h (some (.newbx [.v (.int .u32 0), .v (.int .u32 0), .v (.int .u32 0), .v (.int .u32 0)])) := aop_alloc tz49
theorem aq49 {C : Cfg} {cp : CallP} {g : Id → Option Blk} {e : Nat → Option AV} : aopQ Tryz.prog C cp e g (.alloc 49) = some (.newbx [.v (.int .u32 0), .v (.int .u32 0), .v (.int .u32 0), .v (.int .u32 0)]) := aq_alloc tz49
theorem al98 {C : Cfg} {cp : CallP} {ci : CallI} {lvl : Nat} {e : Env} {h : Heap} {d : Option Tmp} : aop Tryz.prog C cp ci lvl e h d (.alloc 98) = qo lvl (d.getD 0) h (some (.newbx [.v (.bool false), .v (.bool false), .v (.bool false), .v (.int .i64 0), .v (.int .u64 0)])) := aop_alloc tz98
theorem aq98 {C : Cfg} {cp : CallP} {g : Id → Option Blk} {e : Nat → Option AV} : aopQ Tryz.prog C cp e g (.alloc 98) = some (.newbx [.v (.bool false), .v (.bool false), .v (.bool false), .v (.int .i64 0), .v (.int .u64 0)]) := aq_alloc tz98
theorem ab4 : ∀ {op : BinOp} {a b : Bool}, abin Tryz.prog op 4 (.v (.bool a)) (.v (.bool b)) = abinB op a b := abin_bool tv4
theorem cv3_96 : ∀ {k' : IntKind} {z : Int}, cvX Tryz.prog 3 96 (.v (.int k' z)) = some (.v (.int .u64 (wk .u64 z))) := cvX_at tv3 tv96
theorem cv5_3 : ∀ {k' : IntKind} {z : Int}, cvX Tryz.prog 5 3 (.v (.int k' z)) = some (.v (.int .i64 (wk .i64 z))) := cvX_at tv5 tv3
theorem cv24_3 : ∀ {k' : IntKind} {z : Int}, cvX Tryz.prog 24 3 (.v (.int k' z)) = some (.v (.int .i64 (wk .i64 z))) := cvX_at tv24 tv3
theorem cv24_96 : ∀ {k' : IntKind} {z : Int}, cvX Tryz.prog 24 96 (.v (.int k' z)) = some (.v (.int .u64 (wk .u64 z))) := cvX_at tv24 tv96
theorem cv96_5 : ∀ {k' : IntKind} {z : Int}, cvX Tryz.prog 96 5 (.v (.int k' z)) = some (.v (.int .u8 (wk .u8 z))) := cvX_at tv96 tv5
theorem cv96_24 : ∀ {k' : IntKind} {z : Int}, cvX Tryz.prog 96 24 (.v (.int k' z)) = some (.v (.int .u32 (wk .u32 z))) := cvX_at tv96 tv24
theorem sc98 : sliceCells Tryz.prog 4 98 = [0, 0, 0, 0, 0] := by kernel_rfl
theorem ty98 : ∀ {xs : List AV}, typed Tryz.prog 98 (.agg xs) = .agg (nilNew xs [0, 0, 0, 0, 0]) := ty_agg sc98
theorem sc119 : sliceCells Tryz.prog 4 119 = [2] := by kernel_rfl
theorem ty119 : typed Tryz.prog 119 (.v (.slice none 0 0)) = .fresh 1 0 [] := ty_nil sc119
theorem c_T_soft_number_at {x : T_soft_number} : c_T_soft_number x = [.v (.bool x.fneg), .v (.bool x.fnan), .v (.bool x.finf), .v (.int .i64 x.fexp), .v (.int .u64 x.fsig)] := rfl
theorem c_T_soft_number_inj : Inj c_T_soft_number := by
  intro a b h
  obtain ⟨a0, a1, a2, a3, a4⟩ := a
  obtain ⟨b0, b1, b2, b3, b4⟩ := b
  simp only [c_T_soft_number_at, INJ] at h
  simp_all
def TT0 := And.intro @ts3 <| And.intro @pt3 <| And.intro @st3 <| And.intro @ts4 <| And.intro @pt4 <| And.intro @sb4 <| And.intro @ts5 <| And.intro @pt5 <| And.intro @st5 <| And.intro @ts9 <| And.intro @pt9 <| And.intro @ix9 <| And.intro @ts22 <| And.intro @pt22 <| And.intro @ia22 <| And.intro @io22 <| And.intro @le22 <| And.intro @mk22 <| And.intro @ap22 <| And.intro @bs22 <| And.intro @sa22 <| And.intro @so22 <| And.intro @ts24 <| And.intro @pt24 <| And.intro @st24 <| And.intro @ts49 <| And.intro @pt49 <| And.intro @ts96 <| And.intro @pt96 <| And.intro @st96 <| And.intro @ts98 <| And.intro @pt98 <| And.intro @sg98 <| And.intro @ts119 <| And.intro @pt119 <| And.intro @ia119 <| And.intro @io119 <| And.intro @le119 <| And.intro @mk119 <| @ap119
def TT1 := And.intro @bs119 <| And.intro @ao119 <| And.intro @as119 <| And.intro @sa119 <| And.intro @so119 <| And.intro @iz49_0 <| And.intro @iz49_1 <| And.intro @iz49_2 <| And.intro @iz49_3 <| And.intro @fo98_0 <| And.intro @fp98_0 <| And.intro @fr98_0 <| And.intro @fo98_1 <| And.intro @fp98_1 <| And.intro @fr98_1 <| And.intro @fo98_2 <| And.intro @fp98_2 <| And.intro @fr98_2 <| And.intro @fo98_3 <| And.intro @fp98_3 <| And.intro @fr98_3 <| And.intro @fo98_4 <| And.intro @fp98_4 <| And.intro @fr98_4 <| And.intro @bl98 <| And.intro @fl98_0 <| And.intro @fl98_1 <| And.intro @fl98_2 <| And.intro @fl98_3 <| And.intro @fl98_4 <| And.intro @al49 <| And.intro @aq49 <| And.intro @al98 <| And.intro @aq98 <| And.intro @ab4 <| And.intro @cv3_96 <| And.intro @cv5_3 <| And.intro @cv24_3 <| And.intro @cv24_96 <| @cv96_5
def TT2 := And.intro @cv96_24 <| And.intro @ty98 <| And.intro @ty119 <| And.intro @c_T_soft_number_at <| (fun l => @one_fm _ c_T_soft_number l c_T_soft_number_one)
def TT := And.intro @TT0 <| And.intro @TT1 <| @TT2
def OF := (fun l => @one_fm _ c_T_soft_number l c_T_soft_number_one)
def NT := @c_T_soft_number_at
def IJ := And.intro (@c_inj_iff _ _ c_T_soft_number_inj) <| And.intro (@lm_inj_iff _ _ (inj_avf (inj_fm c_T_soft_number_len (by decide) c_T_soft_number_inj))) <| (@fm_inj_iff _ _ (inj_fm c_T_soft_number_len (by decide) c_T_soft_number_inj))
/-! 68: lattice/soft.open -/
def d68 : List (Nat × List Nat) := [(0, []), (0, [3, 4]), (0, [6, 7, 8, 9]), (0, []), (0, [10, 11, 12]), (0, []), (0, [0, 13, 14, 15, 16]), (0, []), (0, [17, 18, 19, 20, 21, 22]), (0, []), (0, [24, 25]), (0, []), (0, [26, 27, 28]), (0, []), (0, [29, 30, 31]), (0, []), (0, [33, 34]), (0, []), (0, [35, 36, 37]), (0, []), (0, [5, 38])]
def d68_at := And.intro (show d68.getD 0 (0, []) = (0, []) from rfl) <| And.intro (show d68.getD 1 (0, []) = (0, [3, 4]) from rfl) <| And.intro (show d68.getD 2 (0, []) = (0, [6, 7, 8, 9]) from rfl) <| And.intro (show d68.getD 3 (0, []) = (0, []) from rfl) <| And.intro (show d68.getD 4 (0, []) = (0, [10, 11, 12]) from rfl) <| And.intro (show d68.getD 5 (0, []) = (0, []) from rfl) <| And.intro (show d68.getD 6 (0, []) = (0, [0, 13, 14, 15, 16]) from rfl) <| And.intro (show d68.getD 7 (0, []) = (0, []) from rfl) <| And.intro (show d68.getD 8 (0, []) = (0, [17, 18, 19, 20, 21, 22]) from rfl) <| And.intro (show d68.getD 9 (0, []) = (0, []) from rfl) <| And.intro (show d68.getD 10 (0, []) = (0, [24, 25]) from rfl) <| And.intro (show d68.getD 11 (0, []) = (0, []) from rfl) <| And.intro (show d68.getD 12 (0, []) = (0, [26, 27, 28]) from rfl) <| And.intro (show d68.getD 13 (0, []) = (0, []) from rfl) <| And.intro (show d68.getD 14 (0, []) = (0, [29, 30, 31]) from rfl) <| And.intro (show d68.getD 15 (0, []) = (0, []) from rfl) <| And.intro (show d68.getD 16 (0, []) = (0, [33, 34]) from rfl) <| And.intro (show d68.getD 17 (0, []) = (0, []) from rfl) <| And.intro (show d68.getD 18 (0, []) = (0, [35, 36, 37]) from rfl) <| And.intro (show d68.getD 19 (0, []) = (0, []) from rfl) <| (show d68.getD 20 (0, []) = (0, [5, 38]) from rfl)
theorem i68 : finfo Tryz.prog 68 d68 = some ⟨bodyOf Tryz.f68, [.cell 2 98], [98]⟩ := finfo_at Tryz.func68 rfl (by kernel_rfl) (by kernel_rfl)
def e68 : T_soft_number → AV := fun r => .agg [.v (.bool r.fneg), .v (.bool r.fnan), .v (.bool r.finf), .v (.int .i64 r.fexp), .v (.int .u64 r.fsig)]
set_option maxHeartbeats 20000000 in
theorem w68 (cp : CallP) (fu : Nat) (x1 : Int) : J (go Tryz.prog noC cp noI 0 [] d68 fu (fin Tryz.prog [.cell 2 98] [98]) (bodyOf Tryz.f68) (initE 0 [.v (.int .u32 x1)]) [] []) (soft_open fu x1) e68 := by
  unfold soft_open e68
  conv => arg 1; simp (maxSteps := 1000000) (disch := first | assumption | decide | with_unfolding_all rfl | omega | (simp only [LN] <;> omega) | (simp only [RO, OF])) only [bodyOf, Tryz.f68, RR, RM, LN, TT, d68_at, ↓reduceIte, Nat.reduceEqDiff, Nat.reduceLT, Nat.reduceLeDiff, Nat.reduceAdd, Nat.reduceSub, Nat.reduceMul, Nat.reduceMod, Nat.reduceDiv, Nat.reduceBEq, RH]
  refine J.eq go_seq ?_
  conv => arg 1; simp (maxSteps := 1000000) (disch := first | assumption | decide | with_unfolding_all rfl | omega | (simp only [LN] <;> omega) | (simp only [RO, OF])) only [RR, RM, LN, TT, d68_at, ↓reduceIte, Nat.reduceEqDiff, Nat.reduceLT, Nat.reduceLeDiff, Nat.reduceAdd, Nat.reduceSub, Nat.reduceMul, Nat.reduceMod, Nat.reduceDiv, Nat.reduceBEq, RH]
  refine J.ite (fun h1 => ?_) (fun h1 => ?_)
  · have h1' := decide_eq_true h1
    conv => arg 1; simp (maxSteps := 1000000) (disch := first | assumption | decide | with_unfolding_all rfl | omega | (simp only [LN] <;> omega) | (simp only [RO, OF])) only [RR, RM, LN, TT, d68_at, ↓reduceIte, Nat.reduceEqDiff, Nat.reduceLT, Nat.reduceLeDiff, Nat.reduceAdd, Nat.reduceSub, Nat.reduceMul, Nat.reduceMod, Nat.reduceDiv, Nat.reduceBEq, RH, h1']
    refine J.eq ret_seq ?_
    refine J.some ?_
    simp (maxSteps := 20000000) (disch := first | assumption | decide | with_unfolding_all rfl | omega | (simp only [LN] <;> omega) | (simp only [RO, OF])) only [RR, RM, LN, TT, d68_at, ↓reduceIte, Nat.reduceEqDiff, Nat.reduceLT, Nat.reduceLeDiff, Nat.reduceAdd, Nat.reduceSub, Nat.reduceMul, Nat.reduceMod, Nat.reduceDiv, Nat.reduceBEq, RH, h1', FF, LN, NN, NT]
  · have h1' := decide_eq_false h1
    conv => arg 1; simp (maxSteps := 1000000) (disch := first | assumption | decide | with_unfolding_all rfl | omega | (simp only [LN] <;> omega) | (simp only [RO, OF])) only [RR, RM, LN, TT, d68_at, ↓reduceIte, Nat.reduceEqDiff, Nat.reduceLT, Nat.reduceLeDiff, Nat.reduceAdd, Nat.reduceSub, Nat.reduceMul, Nat.reduceMod, Nat.reduceDiv, Nat.reduceBEq, RH, h1']
    refine J.ite (fun h2 => ?_) (fun h2 => ?_)
    · have h2' := decide_eq_true h2
      conv => arg 1; simp (maxSteps := 1000000) (disch := first | assumption | decide | with_unfolding_all rfl | omega | (simp only [LN] <;> omega) | (simp only [RO, OF])) only [RR, RM, LN, TT, d68_at, ↓reduceIte, Nat.reduceEqDiff, Nat.reduceLT, Nat.reduceLeDiff, Nat.reduceAdd, Nat.reduceSub, Nat.reduceMul, Nat.reduceMod, Nat.reduceDiv, Nat.reduceBEq, RH, h1', h2']
      refine J.eq ret_seq ?_
      refine J.some ?_
      simp (maxSteps := 20000000) (disch := first | assumption | decide | with_unfolding_all rfl | omega | (simp only [LN] <;> omega) | (simp only [RO, OF])) only [RR, RM, LN, TT, d68_at, ↓reduceIte, Nat.reduceEqDiff, Nat.reduceLT, Nat.reduceLeDiff, Nat.reduceAdd, Nat.reduceSub, Nat.reduceMul, Nat.reduceMod, Nat.reduceDiv, Nat.reduceBEq, RH, h1', h2', FF, LN, NN, NT]
    · have h2' := decide_eq_false h2
      conv => arg 1; simp (maxSteps := 1000000) (disch := first | assumption | decide | with_unfolding_all rfl | omega | (simp only [LN] <;> omega) | (simp only [RO, OF])) only [RR, RM, LN, TT, d68_at, ↓reduceIte, Nat.reduceEqDiff, Nat.reduceLT, Nat.reduceLeDiff, Nat.reduceAdd, Nat.reduceSub, Nat.reduceMul, Nat.reduceMod, Nat.reduceDiv, Nat.reduceBEq, RH, h1', h2']
      refine J.eq ret_seq ?_
      refine J.some ?_
      simp (maxSteps := 20000000) (disch := first | assumption | decide | with_unfolding_all rfl | omega | (simp only [LN] <;> omega) | (simp only [RO, OF])) only [RR, RM, LN, TT, d68_at, ↓reduceIte, Nat.reduceEqDiff, Nat.reduceLT, Nat.reduceLeDiff, Nat.reduceAdd, Nat.reduceSub, Nat.reduceMul, Nat.reduceMod, Nat.reduceDiv, Nat.reduceBEq, RH, h1', h2', FF, LN, NN, NT]
noncomputable def t68 (fu : Nat) : CallP := noP
theorem t68_ok (fu : Nat) : CpOK Tryz.prog (t68 fu ) := noP_ok
theorem ok68 (fu : Nat) (x1 : Int) (r) (h : soft_open fu x1 = some r) : PureOK Tryz.prog 68 [.v (.int .u32 x1)] (e68 r) :=
  pure_J mixed (cp := t68 fu ) (t68_ok fu  ) noI_ok i68 (w68 _ fu x1  ) h
/-! 71: lattice/soft.sign -/
def d71 : List (Nat × List Nat) := [(0, [2]), (0, []), (0, [0]), (0, []), (0, []), (0, []), (0, [])]
def d71_at := And.intro (show d71.getD 0 (0, []) = (0, [2]) from rfl) <| And.intro (show d71.getD 1 (0, []) = (0, []) from rfl) <| And.intro (show d71.getD 2 (0, []) = (0, [0]) from rfl) <| And.intro (show d71.getD 3 (0, []) = (0, []) from rfl) <| And.intro (show d71.getD 4 (0, []) = (0, []) from rfl) <| And.intro (show d71.getD 5 (0, []) = (0, []) from rfl) <| (show d71.getD 6 (0, []) = (0, []) from rfl)
theorem i71 : finfo Tryz.prog 71 d71 = some ⟨bodyOf Tryz.f71, [.tmp 2], [24]⟩ := finfo_at Tryz.func71 rfl (by kernel_rfl) (by kernel_rfl)
def e71 : Int → AV := fun r => .v (.int .u32 r)
set_option maxHeartbeats 20000000 in
theorem w71 (cp : CallP) (fu : Nat) (x1 : Bool) : J (go Tryz.prog noC cp noI 0 [] d71 fu (fin Tryz.prog [.tmp 2] [24]) (bodyOf Tryz.f71) (initE 0 [.v (.bool x1)]) [] []) (soft_sign fu x1) e71 := by
  unfold soft_sign e71
  conv => arg 1; simp (maxSteps := 1000000) (disch := first | assumption | decide | with_unfolding_all rfl | omega | (simp only [LN] <;> omega) | (simp only [RO, OF])) only [bodyOf, Tryz.f71, RR, RM, LN, TT, d71_at, ↓reduceIte, Nat.reduceEqDiff, Nat.reduceLT, Nat.reduceLeDiff, Nat.reduceAdd, Nat.reduceSub, Nat.reduceMul, Nat.reduceMod, Nat.reduceDiv, Nat.reduceBEq, RH]
  refine J.eq go_seq ?_
  conv => arg 1; simp (maxSteps := 1000000) (disch := first | assumption | decide | with_unfolding_all rfl | omega | (simp only [LN] <;> omega) | (simp only [RO, OF])) only [RR, RM, LN, TT, d71_at, ↓reduceIte, Nat.reduceEqDiff, Nat.reduceLT, Nat.reduceLeDiff, Nat.reduceAdd, Nat.reduceSub, Nat.reduceMul, Nat.reduceMod, Nat.reduceDiv, Nat.reduceBEq, RH]
  refine J.ite (fun h1 => ?_) (fun h1 => ?_)
  · have h1' : x1 = true := h1
    refine J.some ?_
    simp (maxSteps := 20000000) (disch := first | assumption | decide | with_unfolding_all rfl | omega | (simp only [LN] <;> omega) | (simp only [RO, OF])) only [RR, RM, LN, TT, d71_at, ↓reduceIte, Nat.reduceEqDiff, Nat.reduceLT, Nat.reduceLeDiff, Nat.reduceAdd, Nat.reduceSub, Nat.reduceMul, Nat.reduceMod, Nat.reduceDiv, Nat.reduceBEq, RH, h1', FF, LN, NN, NT]
  · have h1' : x1 = false := Bool.eq_false_iff.2 h1
    conv => arg 1; simp (maxSteps := 1000000) (disch := first | assumption | decide | with_unfolding_all rfl | omega | (simp only [LN] <;> omega) | (simp only [RO, OF])) only [RR, RM, LN, TT, d71_at, ↓reduceIte, Nat.reduceEqDiff, Nat.reduceLT, Nat.reduceLeDiff, Nat.reduceAdd, Nat.reduceSub, Nat.reduceMul, Nat.reduceMod, Nat.reduceDiv, Nat.reduceBEq, RH, h1']
    refine J.eq ret_seq ?_
    refine J.some ?_
    simp (maxSteps := 20000000) (disch := first | assumption | decide | with_unfolding_all rfl | omega | (simp only [LN] <;> omega) | (simp only [RO, OF])) only [RR, RM, LN, TT, d71_at, ↓reduceIte, Nat.reduceEqDiff, Nat.reduceLT, Nat.reduceLeDiff, Nat.reduceAdd, Nat.reduceSub, Nat.reduceMul, Nat.reduceMod, Nat.reduceDiv, Nat.reduceBEq, RH, h1', FF, LN, NN, NT]
noncomputable def t71 (fu : Nat) : CallP := noP
theorem t71_ok (fu : Nat) : CpOK Tryz.prog (t71 fu ) := noP_ok
theorem ok71 (fu : Nat) (x1 : Bool) (r) (h : soft_sign fu x1 = some r) : PureOK Tryz.prog 71 [.v (.bool x1)] (e71 r) :=
  pure_J mixed (cp := t71 fu ) (t71_ok fu  ) noI_ok i71 (w71 _ fu x1  ) h
/-! 69: lattice/soft.nought -/
def d69 : List (Nat × List Nat) := [(0, [2]), (0, []), (0, [0, 3, 4, 5])]
def d69_at := And.intro (show d69.getD 0 (0, []) = (0, [2]) from rfl) <| And.intro (show d69.getD 1 (0, []) = (0, []) from rfl) <| (show d69.getD 2 (0, []) = (0, [0, 3, 4, 5]) from rfl)
theorem i69 : finfo Tryz.prog 69 d69 = some ⟨bodyOf Tryz.f69, [.tmp 2], [24]⟩ := finfo_at Tryz.func69 rfl (by kernel_rfl) (by kernel_rfl)
def e69 : Int → AV := fun r => .v (.int .u32 r)
set_option maxHeartbeats 20000000 in
theorem w69 (cp : CallP) (fu : Nat) (x1 : Int) (H71_0 : ∀ (a0 : Bool) r, soft_sign fu a0 = some r → cp 71 [.v (.bool a0)] = some (.v (.int .u32 r))) : J (go Tryz.prog noC cp noI 0 [] d69 fu (fin Tryz.prog [.tmp 2] [24]) (bodyOf Tryz.f69) (initE 0 [.v (.int .i64 x1)]) [] []) (soft_nought fu x1) e69 := by
  unfold soft_nought e69
  refine J.bind fun x2 h1 => ?_
  have e_h1 := H71_0 _ _ h1
  try simp only [NN, NT, LN] at e_h1
  refine J.some ?_
  simp (maxSteps := 20000000) (disch := first | assumption | decide | with_unfolding_all rfl | omega | (simp only [LN] <;> omega) | (simp only [RO, OF])) only [bodyOf, Tryz.f69, RR, RM, LN, TT, d69_at, ↓reduceIte, Nat.reduceEqDiff, Nat.reduceLT, Nat.reduceLeDiff, Nat.reduceAdd, Nat.reduceSub, Nat.reduceMul, Nat.reduceMod, Nat.reduceDiv, Nat.reduceBEq, RH, e_h1, FF, LN, NN, NT]
noncomputable def t69 (fu : Nat) : CallP := orE 71 (mkC (fun (t : Bool) => ([.v (.bool t)] : List AV)) (fun t => soft_sign fu t) e71) (noP)
theorem t69_ok (fu : Nat) : CpOK Tryz.prog (t69 fu ) := orE_ok (noP_ok) (mkC_ok (fun t b h => ok71 fu t  b h))
theorem ok69 (fu : Nat) (x1 : Int) (r) (h : soft_nought fu x1 = some r) : PureOK Tryz.prog 69 [.v (.int .i64 x1)] (e69 r) :=
  pure_J mixed (cp := t69 fu ) (t69_ok fu  ) noI_ok i69 (w69 _ fu x1  (fun a0 r h => orE_hit (mkC_at (a := a0) (by intro a b h; first | (exact rfl) | (simp only [INJ, IJ] at h; first | exact h | (simp_all [Prod.ext_iff]) )) h))) h
/-! 131: math/bits.Len64 -/
def d131 : List (Nat × List Nat) := [(0, []), (0, []), (0, [3]), (0, []), (0, [5, 6]), (0, []), (0, []), (0, []), (0, [7]), (0, []), (0, [9, 10]), (0, []), (0, [11, 12]), (0, []), (0, [13]), (0, []), (0, [15, 16]), (0, []), (0, [17, 18]), (0, []), (0, [0, 19, 20, 21, 22, 23, 24])]
def d131_at := And.intro (show d131.getD 0 (0, []) = (0, []) from rfl) <| And.intro (show d131.getD 1 (0, []) = (0, []) from rfl) <| And.intro (show d131.getD 2 (0, []) = (0, [3]) from rfl) <| And.intro (show d131.getD 3 (0, []) = (0, []) from rfl) <| And.intro (show d131.getD 4 (0, []) = (0, [5, 6]) from rfl) <| And.intro (show d131.getD 5 (0, []) = (0, []) from rfl) <| And.intro (show d131.getD 6 (0, []) = (0, []) from rfl) <| And.intro (show d131.getD 7 (0, []) = (0, []) from rfl) <| And.intro (show d131.getD 8 (0, []) = (0, [7]) from rfl) <| And.intro (show d131.getD 9 (0, []) = (0, []) from rfl) <| And.intro (show d131.getD 10 (0, []) = (0, [9, 10]) from rfl) <| And.intro (show d131.getD 11 (0, []) = (0, []) from rfl) <| And.intro (show d131.getD 12 (0, []) = (0, [11, 12]) from rfl) <| And.intro (show d131.getD 13 (0, []) = (0, []) from rfl) <| And.intro (show d131.getD 14 (0, []) = (0, [13]) from rfl) <| And.intro (show d131.getD 15 (0, []) = (0, []) from rfl) <| And.intro (show d131.getD 16 (0, []) = (0, [15, 16]) from rfl) <| And.intro (show d131.getD 17 (0, []) = (0, []) from rfl) <| And.intro (show d131.getD 18 (0, []) = (0, [17, 18]) from rfl) <| And.intro (show d131.getD 19 (0, []) = (0, []) from rfl) <| (show d131.getD 20 (0, []) = (0, [0, 19, 20, 21, 22, 23, 24]) from rfl)
theorem i131 : finfo Tryz.prog 131 d131 = some ⟨bodyOf Tryz.f131, [.tmp 2], [3]⟩ := finfo_at Tryz.func131 rfl (by kernel_rfl) (by kernel_rfl)
def e131 : Int → AV := fun r => .v (.int .i64 r)
set_option maxHeartbeats 20000000 in
theorem w131 (cp : CallP) (fu : Nat) (x1 : Int) : J (go Tryz.prog noC cp noI 0 [] d131 fu (fin Tryz.prog [.tmp 2] [3]) (bodyOf Tryz.f131) (initE 0 [.v (.int .u64 x1)]) [] []) (math_bits_Len64 fu x1) e131 := by
  unfold math_bits_Len64 e131
  conv => arg 1; simp (maxSteps := 1000000) (disch := first | assumption | decide | with_unfolding_all rfl | omega | (simp only [LN] <;> omega) | (simp only [RO, OF])) only [bodyOf, Tryz.f131, RR, RM, LN, TT, d131_at, ↓reduceIte, Nat.reduceEqDiff, Nat.reduceLT, Nat.reduceLeDiff, Nat.reduceAdd, Nat.reduceSub, Nat.reduceMul, Nat.reduceMod, Nat.reduceDiv, Nat.reduceBEq, RH]
  refine J.joinS (fun (t : Int × Int) => ([(0, .v (.int .u64 t.1)), (2, .v (.int .i64 t.2))], [])) (fun t => math_bits_Len64_k1 fu t.1 t.2) ?_ (fun hj1 => ?_)
  · rintro ⟨x2, x3⟩
    show J _ (math_bits_Len64_k1 fu x2 x3) _
    unfold math_bits_Len64_k1
    refine J.joinS (fun (t : Int × Int) => ([(0, .v (.int .u64 t.1)), (2, .v (.int .i64 t.2))], [])) (fun t => math_bits_Len64_k2 fu t.1 t.2) ?_ (fun hj2 => ?_)
    · rintro ⟨x4, x5⟩
      show J _ (math_bits_Len64_k2 fu x4 x5) _
      unfold math_bits_Len64_k2
      refine J.eq go_seq ?_
      conv => arg 1; simp (maxSteps := 1000000) (disch := first | assumption | decide | with_unfolding_all rfl | omega | (simp only [LN] <;> omega) | (simp only [RO, OF])) only [RR, RM, LN, TT, d131_at, ↓reduceIte, Nat.reduceEqDiff, Nat.reduceLT, Nat.reduceLeDiff, Nat.reduceAdd, Nat.reduceSub, Nat.reduceMul, Nat.reduceMod, Nat.reduceDiv, Nat.reduceBEq, RH]
      refine J.ite (fun h1 => ?_) (fun h1 => ?_)
      · have h1' := decide_eq_true h1
        have h1'' : decide (x4 < 256) = false := decide_eq_false (by omega)
        conv => arg 1; simp (maxSteps := 1000000) (disch := first | assumption | decide | with_unfolding_all rfl | omega | (simp only [LN] <;> omega) | (simp only [RO, OF])) only [RR, RM, LN, TT, d131_at, ↓reduceIte, Nat.reduceEqDiff, Nat.reduceLT, Nat.reduceLeDiff, Nat.reduceAdd, Nat.reduceSub, Nat.reduceMul, Nat.reduceMod, Nat.reduceDiv, Nat.reduceBEq, RH, h1'', h1']
        refine J.eq ret_seq ?_
        refine J.sat fun x6 h2 => ?_
        refine J.some ?_
        simp (maxSteps := 20000000) (disch := first | assumption | decide | with_unfolding_all rfl | omega | (simp only [LN] <;> omega) | (simp only [RO, OF])) only [RR, RM, LN, TT, d131_at, ↓reduceIte, Nat.reduceEqDiff, Nat.reduceLT, Nat.reduceLeDiff, Nat.reduceAdd, Nat.reduceSub, Nat.reduceMul, Nat.reduceMod, Nat.reduceDiv, Nat.reduceBEq, RH, h1'', h1', h2, FF, LN, NN, NT]
      · have h1' := decide_eq_false h1
        have h1'' : decide (x4 < 256) = true := decide_eq_true (by omega)
        conv => arg 1; simp (maxSteps := 1000000) (disch := first | assumption | decide | with_unfolding_all rfl | omega | (simp only [LN] <;> omega) | (simp only [RO, OF])) only [RR, RM, LN, TT, d131_at, ↓reduceIte, Nat.reduceEqDiff, Nat.reduceLT, Nat.reduceLeDiff, Nat.reduceAdd, Nat.reduceSub, Nat.reduceMul, Nat.reduceMod, Nat.reduceDiv, Nat.reduceBEq, RH, h1'', h1']
        refine J.eq ret_seq ?_
        refine J.sat fun x7 h3 => ?_
        refine J.some ?_
        simp (maxSteps := 20000000) (disch := first | assumption | decide | with_unfolding_all rfl | omega | (simp only [LN] <;> omega) | (simp only [RO, OF])) only [RR, RM, LN, TT, d131_at, ↓reduceIte, Nat.reduceEqDiff, Nat.reduceLT, Nat.reduceLeDiff, Nat.reduceAdd, Nat.reduceSub, Nat.reduceMul, Nat.reduceMod, Nat.reduceDiv, Nat.reduceBEq, RH, h1'', h1', h3, FF, LN, NN, NT]
    · conv => arg 1; simp (maxSteps := 1000000) (disch := first | assumption | decide | with_unfolding_all rfl | omega | (simp only [LN] <;> omega) | (simp only [RO, OF])) only [RR, RM, LN, TT, d131_at, ↓reduceIte, Nat.reduceEqDiff, Nat.reduceLT, Nat.reduceLeDiff, Nat.reduceAdd, Nat.reduceSub, Nat.reduceMul, Nat.reduceMod, Nat.reduceDiv, Nat.reduceBEq, RH]
      refine J.ite (fun h4 => ?_) (fun h4 => ?_)
      · have h4' := decide_eq_true h4
        have h4'' : decide (x2 < 65536) = false := decide_eq_false (by omega)
        conv => arg 1; simp (maxSteps := 1000000) (disch := first | assumption | decide | with_unfolding_all rfl | omega | (simp only [LN] <;> omega) | (simp only [RO, OF])) only [RR, RM, LN, TT, d131_at, ↓reduceIte, Nat.reduceEqDiff, Nat.reduceLT, Nat.reduceLeDiff, Nat.reduceAdd, Nat.reduceSub, Nat.reduceMul, Nat.reduceMod, Nat.reduceDiv, Nat.reduceBEq, RH, h4'', h4']
        refine J.jmp (t := (shrk .u64 x2 16, wk .i64 (x3 + 16))) hj2 ?_ ?_
        · first | rfl | (simp only [LN, NN, NT])
        · first | (simp (disch := first | assumption | decide | with_unfolding_all rfl | omega | (simp only [LN] <;> omega) | (simp only [RO, OF])) only [RR, ↓reduceIte, Nat.reduceEqDiff, Nat.reduceLT, Nat.reduceLeDiff, Nat.reduceAdd, Nat.reduceSub, Nat.reduceMul, Nat.reduceMod, Nat.reduceDiv, Nat.reduceBEq, LN, NN, NT]; done) | (simp (disch := first | assumption | decide | with_unfolding_all rfl | omega | (simp only [LN] <;> omega) | (simp only [RO, OF])) only [RR, ↓reduceIte, Nat.reduceEqDiff, Nat.reduceLT, Nat.reduceLeDiff, Nat.reduceAdd, Nat.reduceSub, Nat.reduceMul, Nat.reduceMod, Nat.reduceDiv, Nat.reduceBEq, LN, fm_app, NN, NT]; done) | rfl
      · have h4' := decide_eq_false h4
        have h4'' : decide (x2 < 65536) = true := decide_eq_true (by omega)
        conv => arg 1; simp (maxSteps := 1000000) (disch := first | assumption | decide | with_unfolding_all rfl | omega | (simp only [LN] <;> omega) | (simp only [RO, OF])) only [RR, RM, LN, TT, d131_at, ↓reduceIte, Nat.reduceEqDiff, Nat.reduceLT, Nat.reduceLeDiff, Nat.reduceAdd, Nat.reduceSub, Nat.reduceMul, Nat.reduceMod, Nat.reduceDiv, Nat.reduceBEq, RH, h4'', h4']
        refine J.jmp (t := (x2, x3)) hj2 ?_ ?_
        · first | rfl | (simp only [LN, NN, NT])
        · first | (simp (disch := first | assumption | decide | with_unfolding_all rfl | omega | (simp only [LN] <;> omega) | (simp only [RO, OF])) only [RR, ↓reduceIte, Nat.reduceEqDiff, Nat.reduceLT, Nat.reduceLeDiff, Nat.reduceAdd, Nat.reduceSub, Nat.reduceMul, Nat.reduceMod, Nat.reduceDiv, Nat.reduceBEq, LN, NN, NT]; done) | (simp (disch := first | assumption | decide | with_unfolding_all rfl | omega | (simp only [LN] <;> omega) | (simp only [RO, OF])) only [RR, ↓reduceIte, Nat.reduceEqDiff, Nat.reduceLT, Nat.reduceLeDiff, Nat.reduceAdd, Nat.reduceSub, Nat.reduceMul, Nat.reduceMod, Nat.reduceDiv, Nat.reduceBEq, LN, fm_app, NN, NT]; done) | rfl
  · conv => arg 1; simp (maxSteps := 1000000) (disch := first | assumption | decide | with_unfolding_all rfl | omega | (simp only [LN] <;> omega) | (simp only [RO, OF])) only [RR, RM, LN, TT, d131_at, ↓reduceIte, Nat.reduceEqDiff, Nat.reduceLT, Nat.reduceLeDiff, Nat.reduceAdd, Nat.reduceSub, Nat.reduceMul, Nat.reduceMod, Nat.reduceDiv, Nat.reduceBEq, RH]
    refine J.ite (fun h5 => ?_) (fun h5 => ?_)
    · have h5' := decide_eq_true h5
      have h5'' : decide (x1 < 4294967296) = false := decide_eq_false (by omega)
      conv => arg 1; simp (maxSteps := 1000000) (disch := first | assumption | decide | with_unfolding_all rfl | omega | (simp only [LN] <;> omega) | (simp only [RO, OF])) only [RR, RM, LN, TT, d131_at, ↓reduceIte, Nat.reduceEqDiff, Nat.reduceLT, Nat.reduceLeDiff, Nat.reduceAdd, Nat.reduceSub, Nat.reduceMul, Nat.reduceMod, Nat.reduceDiv, Nat.reduceBEq, RH, h5'', h5']
      refine J.jmp (t := (shrk .u64 x1 32, 32)) hj1 ?_ ?_
      · first | rfl | (simp only [LN, NN, NT])
      · first | (simp (disch := first | assumption | decide | with_unfolding_all rfl | omega | (simp only [LN] <;> omega) | (simp only [RO, OF])) only [RR, ↓reduceIte, Nat.reduceEqDiff, Nat.reduceLT, Nat.reduceLeDiff, Nat.reduceAdd, Nat.reduceSub, Nat.reduceMul, Nat.reduceMod, Nat.reduceDiv, Nat.reduceBEq, LN, NN, NT]; done) | (simp (disch := first | assumption | decide | with_unfolding_all rfl | omega | (simp only [LN] <;> omega) | (simp only [RO, OF])) only [RR, ↓reduceIte, Nat.reduceEqDiff, Nat.reduceLT, Nat.reduceLeDiff, Nat.reduceAdd, Nat.reduceSub, Nat.reduceMul, Nat.reduceMod, Nat.reduceDiv, Nat.reduceBEq, LN, fm_app, NN, NT]; done) | rfl
    · have h5' := decide_eq_false h5
      have h5'' : decide (x1 < 4294967296) = true := decide_eq_true (by omega)
      conv => arg 1; simp (maxSteps := 1000000) (disch := first | assumption | decide | with_unfolding_all rfl | omega | (simp only [LN] <;> omega) | (simp only [RO, OF])) only [RR, RM, LN, TT, d131_at, ↓reduceIte, Nat.reduceEqDiff, Nat.reduceLT, Nat.reduceLeDiff, Nat.reduceAdd, Nat.reduceSub, Nat.reduceMul, Nat.reduceMod, Nat.reduceDiv, Nat.reduceBEq, RH, h5'', h5']
      refine J.jmp (t := (x1, 0)) hj1 ?_ ?_
      · first | rfl | (simp only [LN, NN, NT])
      · first | (simp (disch := first | assumption | decide | with_unfolding_all rfl | omega | (simp only [LN] <;> omega) | (simp only [RO, OF])) only [RR, ↓reduceIte, Nat.reduceEqDiff, Nat.reduceLT, Nat.reduceLeDiff, Nat.reduceAdd, Nat.reduceSub, Nat.reduceMul, Nat.reduceMod, Nat.reduceDiv, Nat.reduceBEq, LN, NN, NT]; done) | (simp (disch := first | assumption | decide | with_unfolding_all rfl | omega | (simp only [LN] <;> omega) | (simp only [RO, OF])) only [RR, ↓reduceIte, Nat.reduceEqDiff, Nat.reduceLT, Nat.reduceLeDiff, Nat.reduceAdd, Nat.reduceSub, Nat.reduceMul, Nat.reduceMod, Nat.reduceDiv, Nat.reduceBEq, LN, fm_app, NN, NT]; done) | rfl
noncomputable def t131 (fu : Nat) : CallP := noP
theorem t131_ok (fu : Nat) : CpOK Tryz.prog (t131 fu ) := noP_ok
theorem ok131 (fu : Nat) (x1 : Int) (r) (h : math_bits_Len64 fu x1 = some r) : PureOK Tryz.prog 131 [.v (.int .u64 x1)] (e131 r) :=
  pure_J mixed (cp := t131 fu ) (t131_ok fu  ) noI_ok i131 (w131 _ fu x1  ) h
/-! 134: lattice/soft.outwards -/
def d134 : List (Nat × List Nat) := [(0, [4]), (0, []), (0, [0, 1, 5, 6, 7, 8, 9, 10, 11, 12, 13, 14, 15, 16, 17])]
def d134_at := And.intro (show d134.getD 0 (0, []) = (0, [4]) from rfl) <| And.intro (show d134.getD 1 (0, []) = (0, []) from rfl) <| (show d134.getD 2 (0, []) = (0, [0, 1, 5, 6, 7, 8, 9, 10, 11, 12, 13, 14, 15, 16, 17]) from rfl)
theorem i134 : finfo Tryz.prog 134 d134 = some ⟨bodyOf Tryz.f134, [.tmp 4], [4]⟩ := finfo_at Tryz.func134 rfl (by kernel_rfl) (by kernel_rfl)
def e134 : Bool → AV := fun r => .v (.bool r)
set_option maxHeartbeats 20000000 in
theorem w134 (cp : CallP) (fu : Nat) (x1 : Int) (x2 : Bool) : J (go Tryz.prog noC cp noI 0 [] d134 fu (fin Tryz.prog [.tmp 4] [4]) (bodyOf Tryz.f134) (initE 0 [.v (.int .i64 x1), .v (.bool x2)]) [] []) (soft_outwards fu x1 x2) e134 := by
  unfold soft_outwards e134
  conv => arg 1; simp (maxSteps := 1000000) (disch := first | assumption | decide | with_unfolding_all rfl | omega | (simp only [LN] <;> omega) | (simp only [RO, OF])) only [bodyOf, Tryz.f134, RR, RM, LN, TT, d134_at, ↓reduceIte, Nat.reduceEqDiff, Nat.reduceLT, Nat.reduceLeDiff, Nat.reduceAdd, Nat.reduceSub, Nat.reduceMul, Nat.reduceMod, Nat.reduceDiv, Nat.reduceBEq, RH]
  refine J.eq go_seq ?_
  conv => arg 1; simp (maxSteps := 1000000) (disch := first | assumption | decide | with_unfolding_all rfl | omega | (simp only [LN] <;> omega) | (simp only [RO, OF])) only [RR, RM, LN, TT, d134_at, ↓reduceIte, Nat.reduceEqDiff, Nat.reduceLT, Nat.reduceLeDiff, Nat.reduceAdd, Nat.reduceSub, Nat.reduceMul, Nat.reduceMod, Nat.reduceDiv, Nat.reduceBEq, RH]
  refine J.ite (fun h1 => ?_) (fun h1 => ?_)
  · have h1' := decide_eq_true h1
    conv => arg 1; simp (maxSteps := 1000000) (disch := first | assumption | decide | with_unfolding_all rfl | omega | (simp only [LN] <;> omega) | (simp only [RO, OF])) only [RR, RM, LN, TT, d134_at, ↓reduceIte, Nat.reduceEqDiff, Nat.reduceLT, Nat.reduceLeDiff, Nat.reduceAdd, Nat.reduceSub, Nat.reduceMul, Nat.reduceMod, Nat.reduceDiv, Nat.reduceBEq, RH, h1']
    refine J.ite (fun h2 => ?_) (fun h2 => ?_)
    · have h2' : x2 = true := h2
      conv => arg 1; simp (maxSteps := 1000000) (disch := first | assumption | decide | with_unfolding_all rfl | omega | (simp only [LN] <;> omega) | (simp only [RO, OF])) only [RR, RM, LN, TT, d134_at, ↓reduceIte, Nat.reduceEqDiff, Nat.reduceLT, Nat.reduceLeDiff, Nat.reduceAdd, Nat.reduceSub, Nat.reduceMul, Nat.reduceMod, Nat.reduceDiv, Nat.reduceBEq, RH, h1', h2']
      refine J.ite (fun h3 => ?_) (fun h3 => ?_)
      · exact J.none
      · have h3' := decide_eq_false h3
        conv => arg 1; simp (maxSteps := 1000000) (disch := first | assumption | decide | with_unfolding_all rfl | omega | (simp only [LN] <;> omega) | (simp only [RO, OF])) only [RR, RM, LN, TT, d134_at, ↓reduceIte, Nat.reduceEqDiff, Nat.reduceLT, Nat.reduceLeDiff, Nat.reduceAdd, Nat.reduceSub, Nat.reduceMul, Nat.reduceMod, Nat.reduceDiv, Nat.reduceBEq, RH, h1', h2', h3']
        refine J.eq ret_seq ?_
        refine J.some ?_
        simp (maxSteps := 20000000) (disch := first | assumption | decide | with_unfolding_all rfl | omega | (simp only [LN] <;> omega) | (simp only [RO, OF])) only [RR, RM, LN, TT, d134_at, ↓reduceIte, Nat.reduceEqDiff, Nat.reduceLT, Nat.reduceLeDiff, Nat.reduceAdd, Nat.reduceSub, Nat.reduceMul, Nat.reduceMod, Nat.reduceDiv, Nat.reduceBEq, RH, h1', h2', h3', FF, LN, NN, NT]
    · have h2' : x2 = false := Bool.eq_false_iff.2 h2
      conv => arg 1; simp (maxSteps := 1000000) (disch := first | assumption | decide | with_unfolding_all rfl | omega | (simp only [LN] <;> omega) | (simp only [RO, OF])) only [RR, RM, LN, TT, d134_at, ↓reduceIte, Nat.reduceEqDiff, Nat.reduceLT, Nat.reduceLeDiff, Nat.reduceAdd, Nat.reduceSub, Nat.reduceMul, Nat.reduceMod, Nat.reduceDiv, Nat.reduceBEq, RH, h1', h2']
      refine J.eq ret_seq ?_
      refine J.some ?_
      simp (maxSteps := 20000000) (disch := first | assumption | decide | with_unfolding_all rfl | omega | (simp only [LN] <;> omega) | (simp only [RO, OF])) only [RR, RM, LN, TT, d134_at, ↓reduceIte, Nat.reduceEqDiff, Nat.reduceLT, Nat.reduceLeDiff, Nat.reduceAdd, Nat.reduceSub, Nat.reduceMul, Nat.reduceMod, Nat.reduceDiv, Nat.reduceBEq, RH, h1', h2', FF, LN, NN, NT]
  · have h1' := decide_eq_false h1
    conv => arg 1; simp (maxSteps := 1000000) (disch := first | assumption | decide | with_unfolding_all rfl | omega | (simp only [LN] <;> omega) | (simp only [RO, OF])) only [RR, RM, LN, TT, d134_at, ↓reduceIte, Nat.reduceEqDiff, Nat.reduceLT, Nat.reduceLeDiff, Nat.reduceAdd, Nat.reduceSub, Nat.reduceMul, Nat.reduceMod, Nat.reduceDiv, Nat.reduceBEq, RH, h1']
    refine J.ite (fun h4 => ?_) (fun h4 => ?_)
    · have h4' := decide_eq_true h4
      conv => arg 1; simp (maxSteps := 1000000) (disch := first | assumption | decide | with_unfolding_all rfl | omega | (simp only [LN] <;> omega) | (simp only [RO, OF])) only [RR, RM, LN, TT, d134_at, ↓reduceIte, Nat.reduceEqDiff, Nat.reduceLT, Nat.reduceLeDiff, Nat.reduceAdd, Nat.reduceSub, Nat.reduceMul, Nat.reduceMod, Nat.reduceDiv, Nat.reduceBEq, RH, h1', h4']
      refine J.eq ret_seq ?_
      refine J.some ?_
      simp (maxSteps := 20000000) (disch := first | assumption | decide | with_unfolding_all rfl | omega | (simp only [LN] <;> omega) | (simp only [RO, OF])) only [RR, RM, LN, TT, d134_at, ↓reduceIte, Nat.reduceEqDiff, Nat.reduceLT, Nat.reduceLeDiff, Nat.reduceAdd, Nat.reduceSub, Nat.reduceMul, Nat.reduceMod, Nat.reduceDiv, Nat.reduceBEq, RH, h1', h4', FF, LN, NN, NT]
    · have h4' := decide_eq_false h4
      conv => arg 1; simp (maxSteps := 1000000) (disch := first | assumption | decide | with_unfolding_all rfl | omega | (simp only [LN] <;> omega) | (simp only [RO, OF])) only [RR, RM, LN, TT, d134_at, ↓reduceIte, Nat.reduceEqDiff, Nat.reduceLT, Nat.reduceLeDiff, Nat.reduceAdd, Nat.reduceSub, Nat.reduceMul, Nat.reduceMod, Nat.reduceDiv, Nat.reduceBEq, RH, h1', h4']
      refine J.eq ret_seq ?_
      refine J.some ?_
      simp (maxSteps := 20000000) (disch := first | assumption | decide | with_unfolding_all rfl | omega | (simp only [LN] <;> omega) | (simp only [RO, OF])) only [RR, RM, LN, TT, d134_at, ↓reduceIte, Nat.reduceEqDiff, Nat.reduceLT, Nat.reduceLeDiff, Nat.reduceAdd, Nat.reduceSub, Nat.reduceMul, Nat.reduceMod, Nat.reduceDiv, Nat.reduceBEq, RH, h1', h4', FF, LN, NN, NT]
noncomputable def t134 (fu : Nat) : CallP := noP
theorem t134_ok (fu : Nat) : CpOK Tryz.prog (t134 fu ) := noP_ok
theorem ok134 (fu : Nat) (x1 : Int) (x2 : Bool) (r) (h : soft_outwards fu x1 x2 = some r) : PureOK Tryz.prog 134 [.v (.int .i64 x1), .v (.bool x2)] (e134 r) :=
  pure_J mixed (cp := t134 fu ) (t134_ok fu  ) noI_ok i134 (w134 _ fu x1 x2  ) h
/-! 132: lattice/soft.tiny -/
def d132 : List (Nat × List Nat) := [(0, [4]), (0, []), (0, [0, 5, 6]), (0, []), (0, [8, 9, 10]), (0, []), (0, [1, 11, 12])]
def d132_at := And.intro (show d132.getD 0 (0, []) = (0, [4]) from rfl) <| And.intro (show d132.getD 1 (0, []) = (0, []) from rfl) <| And.intro (show d132.getD 2 (0, []) = (0, [0, 5, 6]) from rfl) <| And.intro (show d132.getD 3 (0, []) = (0, []) from rfl) <| And.intro (show d132.getD 4 (0, []) = (0, [8, 9, 10]) from rfl) <| And.intro (show d132.getD 5 (0, []) = (0, []) from rfl) <| (show d132.getD 6 (0, []) = (0, [1, 11, 12]) from rfl)
theorem i132 : finfo Tryz.prog 132 d132 = some ⟨bodyOf Tryz.f132, [.tmp 4], [24]⟩ := finfo_at Tryz.func132 rfl (by kernel_rfl) (by kernel_rfl)
def e132 : Int → AV := fun r => .v (.int .u32 r)
set_option maxHeartbeats 20000000 in
theorem w132 (cp : CallP) (fu : Nat) (x1 : Int) (x2 : Bool) (H134_0 : ∀ (a0 : Int) (a1 : Bool) r, soft_outwards fu a0 a1 = some r → cp 134 [.v (.int .i64 a0), .v (.bool a1)] = some (.v (.bool r))) (H71_0 : ∀ (a0 : Bool) r, soft_sign fu a0 = some r → cp 71 [.v (.bool a0)] = some (.v (.int .u32 r))) : J (go Tryz.prog noC cp noI 0 [] d132 fu (fin Tryz.prog [.tmp 4] [24]) (bodyOf Tryz.f132) (initE 0 [.v (.int .i64 x1), .v (.bool x2)]) [] []) (soft_tiny fu x1 x2) e132 := by
  unfold soft_tiny e132
  conv => arg 1; simp (maxSteps := 1000000) (disch := first | assumption | decide | with_unfolding_all rfl | omega | (simp only [LN] <;> omega) | (simp only [RO, OF])) only [bodyOf, Tryz.f132, RR, RM, LN, TT, d132_at, ↓reduceIte, Nat.reduceEqDiff, Nat.reduceLT, Nat.reduceLeDiff, Nat.reduceAdd, Nat.reduceSub, Nat.reduceMul, Nat.reduceMod, Nat.reduceDiv, Nat.reduceBEq, RH]
  refine J.eq go_seq ?_
  refine J.bind fun x3 h1 => ?_
  have e_h1 := H134_0 _ _ _ h1
  try simp only [NN, NT, LN] at e_h1
  conv => arg 1; simp (maxSteps := 1000000) (disch := first | assumption | decide | with_unfolding_all rfl | omega | (simp only [LN] <;> omega) | (simp only [RO, OF])) only [RR, RM, LN, TT, d132_at, ↓reduceIte, Nat.reduceEqDiff, Nat.reduceLT, Nat.reduceLeDiff, Nat.reduceAdd, Nat.reduceSub, Nat.reduceMul, Nat.reduceMod, Nat.reduceDiv, Nat.reduceBEq, RH, e_h1]
  refine J.ite (fun h2 => ?_) (fun h2 => ?_)
  · have h2' : x3 = true := h2
    refine J.bind fun x4 h3 => ?_
    have e_h3 := H71_0 _ _ h3
    try simp only [NN, NT, LN] at e_h3
    refine J.some ?_
    simp (maxSteps := 20000000) (disch := first | assumption | decide | with_unfolding_all rfl | omega | (simp only [LN] <;> omega) | (simp only [RO, OF])) only [RR, RM, LN, TT, d132_at, ↓reduceIte, Nat.reduceEqDiff, Nat.reduceLT, Nat.reduceLeDiff, Nat.reduceAdd, Nat.reduceSub, Nat.reduceMul, Nat.reduceMod, Nat.reduceDiv, Nat.reduceBEq, RH, e_h1, h2', e_h3, FF, LN, NN, NT]
  · have h2' : x3 = false := Bool.eq_false_iff.2 h2
    conv => arg 1; simp (maxSteps := 1000000) (disch := first | assumption | decide | with_unfolding_all rfl | omega | (simp only [LN] <;> omega) | (simp only [RO, OF])) only [RR, RM, LN, TT, d132_at, ↓reduceIte, Nat.reduceEqDiff, Nat.reduceLT, Nat.reduceLeDiff, Nat.reduceAdd, Nat.reduceSub, Nat.reduceMul, Nat.reduceMod, Nat.reduceDiv, Nat.reduceBEq, RH, e_h1, h2']
    refine J.eq ret_seq ?_
    refine J.bind fun x5 h4 => ?_
    have e_h4 := H71_0 _ _ h4
    try simp only [NN, NT, LN] at e_h4
    refine J.some ?_
    simp (maxSteps := 20000000) (disch := first | assumption | decide | with_unfolding_all rfl | omega | (simp only [LN] <;> omega) | (simp only [RO, OF])) only [RR, RM, LN, TT, d132_at, ↓reduceIte, Nat.reduceEqDiff, Nat.reduceLT, Nat.reduceLeDiff, Nat.reduceAdd, Nat.reduceSub, Nat.reduceMul, Nat.reduceMod, Nat.reduceDiv, Nat.reduceBEq, RH, e_h1, h2', e_h4, FF, LN, NN, NT]
noncomputable def t132 (fu : Nat) : CallP := orE 134 (mkC (fun (t : Int × Bool) => ([.v (.int .i64 t.1), .v (.bool t.2)] : List AV)) (fun t => soft_outwards fu t.1 t.2) e134) (orE 71 (mkC (fun (t : Bool) => ([.v (.bool t)] : List AV)) (fun t => soft_sign fu t) e71) (noP))
theorem t132_ok (fu : Nat) : CpOK Tryz.prog (t132 fu ) := orE_ok (orE_ok (noP_ok) (mkC_ok (fun t b h => ok71 fu t  b h))) (mkC_ok (fun t b h => ok134 fu t.1 t.2  b h))
theorem ok132 (fu : Nat) (x1 : Int) (x2 : Bool) (r) (h : soft_tiny fu x1 x2 = some r) : PureOK Tryz.prog 132 [.v (.int .i64 x1), .v (.bool x2)] (e132 r) :=
  pure_J mixed (cp := t132 fu ) (t132_ok fu  ) noI_ok i132 (w132 _ fu x1 x2  (fun a0 a1 r h => orE_hit (mkC_at (a := (a0, a1)) (by intro a b h; first | (exact rfl) | (simp only [INJ, IJ] at h; first | exact h | (simp_all [Prod.ext_iff]) )) h)) (fun a0 r h => orE_miss (by decide) (orE_hit (mkC_at (a := a0) (by intro a b h; first | (exact rfl) | (simp only [INJ, IJ] at h; first | exact h | (simp_all [Prod.ext_iff]) )) h)))) h
/-! 133: lattice/soft.huge -/
def d133 : List (Nat × List Nat) := [(0, [4]), (0, []), (0, [0, 5, 6, 7, 8, 9, 10, 11, 12, 13, 14, 15]), (0, []), (0, [17, 18, 19]), (0, []), (0, [1, 20, 21, 22])]
def d133_at := And.intro (show d133.getD 0 (0, []) = (0, [4]) from rfl) <| And.intro (show d133.getD 1 (0, []) = (0, []) from rfl) <| And.intro (show d133.getD 2 (0, []) = (0, [0, 5, 6, 7, 8, 9, 10, 11, 12, 13, 14, 15]) from rfl) <| And.intro (show d133.getD 3 (0, []) = (0, []) from rfl) <| And.intro (show d133.getD 4 (0, []) = (0, [17, 18, 19]) from rfl) <| And.intro (show d133.getD 5 (0, []) = (0, []) from rfl) <| (show d133.getD 6 (0, []) = (0, [1, 20, 21, 22]) from rfl)
theorem i133 : finfo Tryz.prog 133 d133 = some ⟨bodyOf Tryz.f133, [.tmp 4], [24]⟩ := finfo_at Tryz.func133 rfl (by kernel_rfl) (by kernel_rfl)
def e133 : Int → AV := fun r => .v (.int .u32 r)
set_option maxHeartbeats 20000000 in
theorem w133 (cp : CallP) (fu : Nat) (x1 : Int) (x2 : Bool) (H134_0 : ∀ (a0 : Int) (a1 : Bool) r, soft_outwards fu a0 a1 = some r → cp 134 [.v (.int .i64 a0), .v (.bool a1)] = some (.v (.bool r))) (H71_0 : ∀ (a0 : Bool) r, soft_sign fu a0 = some r → cp 71 [.v (.bool a0)] = some (.v (.int .u32 r))) : J (go Tryz.prog noC cp noI 0 [] d133 fu (fin Tryz.prog [.tmp 4] [24]) (bodyOf Tryz.f133) (initE 0 [.v (.int .i64 x1), .v (.bool x2)]) [] []) (soft_huge fu x1 x2) e133 := by
  unfold soft_huge e133
  conv => arg 1; simp (maxSteps := 1000000) (disch := first | assumption | decide | with_unfolding_all rfl | omega | (simp only [LN] <;> omega) | (simp only [RO, OF])) only [bodyOf, Tryz.f133, RR, RM, LN, TT, d133_at, ↓reduceIte, Nat.reduceEqDiff, Nat.reduceLT, Nat.reduceLeDiff, Nat.reduceAdd, Nat.reduceSub, Nat.reduceMul, Nat.reduceMod, Nat.reduceDiv, Nat.reduceBEq, RH]
  refine J.joinS (fun (t : Unit) => ([(1, .v (.bool x2))], [])) (fun t => soft_huge_k1 fu x2) ?_ (fun hj1 => ?_)
  · rintro ⟨⟩
    show J _ (soft_huge_k1 fu x2) _
    unfold soft_huge_k1
    refine J.bind fun x3 h1 => ?_
    have e_h1 := H71_0 _ _ h1
    try simp only [NN, NT, LN] at e_h1
    refine J.some ?_
    simp (maxSteps := 20000000) (disch := first | assumption | decide | with_unfolding_all rfl | omega | (simp only [LN] <;> omega) | (simp only [RO, OF])) only [RR, RM, LN, TT, d133_at, ↓reduceIte, Nat.reduceEqDiff, Nat.reduceLT, Nat.reduceLeDiff, Nat.reduceAdd, Nat.reduceSub, Nat.reduceMul, Nat.reduceMod, Nat.reduceDiv, Nat.reduceBEq, RH, e_h1, FF, LN, NN, NT]
  · refine J.eq go_seq ?_
    conv => arg 1; simp (maxSteps := 1000000) (disch := first | assumption | decide | with_unfolding_all rfl | omega | (simp only [LN] <;> omega) | (simp only [RO, OF])) only [RR, RM, LN, TT, d133_at, ↓reduceIte, Nat.reduceEqDiff, Nat.reduceLT, Nat.reduceLeDiff, Nat.reduceAdd, Nat.reduceSub, Nat.reduceMul, Nat.reduceMod, Nat.reduceDiv, Nat.reduceBEq, RH]
    refine J.ite (fun h2 => ?_) (fun h2 => ?_)
    · have h2' := decide_eq_true h2
      refine J.bind fun x4 h3 => ?_
      have e_h3 := H134_0 _ _ _ h3
      try simp only [NN, NT, LN] at e_h3
      conv => arg 1; simp (maxSteps := 1000000) (disch := first | assumption | decide | with_unfolding_all rfl | omega | (simp only [LN] <;> omega) | (simp only [RO, OF])) only [RR, RM, LN, TT, d133_at, ↓reduceIte, Nat.reduceEqDiff, Nat.reduceLT, Nat.reduceLeDiff, Nat.reduceAdd, Nat.reduceSub, Nat.reduceMul, Nat.reduceMod, Nat.reduceDiv, Nat.reduceBEq, RH, h2', e_h3]
      refine J.eq ret_seq ?_
      conv => arg 1; simp (maxSteps := 1000000) (disch := first | assumption | decide | with_unfolding_all rfl | omega | (simp only [LN] <;> omega) | (simp only [RO, OF])) only [RR, RM, LN, TT, d133_at, ↓reduceIte, Nat.reduceEqDiff, Nat.reduceLT, Nat.reduceLeDiff, Nat.reduceAdd, Nat.reduceSub, Nat.reduceMul, Nat.reduceMod, Nat.reduceDiv, Nat.reduceBEq, RH, h2', e_h3]
      refine J.ite (fun h4 => ?_) (fun h4 => ?_)
      · have h4' : x4 = true := h4
        conv => arg 1; simp (maxSteps := 1000000) (disch := first | assumption | decide | with_unfolding_all rfl | omega | (simp only [LN] <;> omega) | (simp only [RO, OF])) only [RR, RM, LN, TT, d133_at, ↓reduceIte, Nat.reduceEqDiff, Nat.reduceLT, Nat.reduceLeDiff, Nat.reduceAdd, Nat.reduceSub, Nat.reduceMul, Nat.reduceMod, Nat.reduceDiv, Nat.reduceBEq, RH, h2', e_h3, h4']
        refine J.jmp (t := ()) hj1 ?_ ?_
        · first | rfl | (simp only [LN, NN, NT])
        · first | (simp (disch := first | assumption | decide | with_unfolding_all rfl | omega | (simp only [LN] <;> omega) | (simp only [RO, OF])) only [RR, ↓reduceIte, Nat.reduceEqDiff, Nat.reduceLT, Nat.reduceLeDiff, Nat.reduceAdd, Nat.reduceSub, Nat.reduceMul, Nat.reduceMod, Nat.reduceDiv, Nat.reduceBEq, LN, NN, NT]; done) | (simp (disch := first | assumption | decide | with_unfolding_all rfl | omega | (simp only [LN] <;> omega) | (simp only [RO, OF])) only [RR, ↓reduceIte, Nat.reduceEqDiff, Nat.reduceLT, Nat.reduceLeDiff, Nat.reduceAdd, Nat.reduceSub, Nat.reduceMul, Nat.reduceMod, Nat.reduceDiv, Nat.reduceBEq, LN, fm_app, NN, NT]; done) | rfl
      · have h4' : x4 = false := Bool.eq_false_iff.2 h4
        refine J.bind fun x5 h5 => ?_
        have e_h5 := H71_0 _ _ h5
        try simp only [NN, NT, LN] at e_h5
        refine J.some ?_
        simp (maxSteps := 20000000) (disch := first | assumption | decide | with_unfolding_all rfl | omega | (simp only [LN] <;> omega) | (simp only [RO, OF])) only [RR, RM, LN, TT, d133_at, ↓reduceIte, Nat.reduceEqDiff, Nat.reduceLT, Nat.reduceLeDiff, Nat.reduceAdd, Nat.reduceSub, Nat.reduceMul, Nat.reduceMod, Nat.reduceDiv, Nat.reduceBEq, RH, h2', e_h3, h4', e_h5, FF, LN, NN, NT]
    · have h2' := decide_eq_false h2
      conv => arg 1; simp (maxSteps := 1000000) (disch := first | assumption | decide | with_unfolding_all rfl | omega | (simp only [LN] <;> omega) | (simp only [RO, OF])) only [RR, RM, LN, TT, d133_at, ↓reduceIte, Nat.reduceEqDiff, Nat.reduceLT, Nat.reduceLeDiff, Nat.reduceAdd, Nat.reduceSub, Nat.reduceMul, Nat.reduceMod, Nat.reduceDiv, Nat.reduceBEq, RH, h2']
      refine J.ite (fun h6 => ?_) (fun h6 => ?_)
      · have h6' := decide_eq_true h6
        refine J.bind fun x6 h7 => ?_
        have e_h7 := H134_0 _ _ _ h7
        try simp only [NN, NT, LN] at e_h7
        conv => arg 1; simp (maxSteps := 1000000) (disch := first | assumption | decide | with_unfolding_all rfl | omega | (simp only [LN] <;> omega) | (simp only [RO, OF])) only [RR, RM, LN, TT, d133_at, ↓reduceIte, Nat.reduceEqDiff, Nat.reduceLT, Nat.reduceLeDiff, Nat.reduceAdd, Nat.reduceSub, Nat.reduceMul, Nat.reduceMod, Nat.reduceDiv, Nat.reduceBEq, RH, h2', h6', e_h7]
        refine J.eq ret_seq ?_
        conv => arg 1; simp (maxSteps := 1000000) (disch := first | assumption | decide | with_unfolding_all rfl | omega | (simp only [LN] <;> omega) | (simp only [RO, OF])) only [RR, RM, LN, TT, d133_at, ↓reduceIte, Nat.reduceEqDiff, Nat.reduceLT, Nat.reduceLeDiff, Nat.reduceAdd, Nat.reduceSub, Nat.reduceMul, Nat.reduceMod, Nat.reduceDiv, Nat.reduceBEq, RH, h2', h6', e_h7]
        refine J.ite (fun h8 => ?_) (fun h8 => ?_)
        · have h8' : x6 = true := h8
          conv => arg 1; simp (maxSteps := 1000000) (disch := first | assumption | decide | with_unfolding_all rfl | omega | (simp only [LN] <;> omega) | (simp only [RO, OF])) only [RR, RM, LN, TT, d133_at, ↓reduceIte, Nat.reduceEqDiff, Nat.reduceLT, Nat.reduceLeDiff, Nat.reduceAdd, Nat.reduceSub, Nat.reduceMul, Nat.reduceMod, Nat.reduceDiv, Nat.reduceBEq, RH, h2', h6', e_h7, h8']
          refine J.jmp (t := ()) hj1 ?_ ?_
          · first | rfl | (simp only [LN, NN, NT])
          · first | (simp (disch := first | assumption | decide | with_unfolding_all rfl | omega | (simp only [LN] <;> omega) | (simp only [RO, OF])) only [RR, ↓reduceIte, Nat.reduceEqDiff, Nat.reduceLT, Nat.reduceLeDiff, Nat.reduceAdd, Nat.reduceSub, Nat.reduceMul, Nat.reduceMod, Nat.reduceDiv, Nat.reduceBEq, LN, NN, NT]; done) | (simp (disch := first | assumption | decide | with_unfolding_all rfl | omega | (simp only [LN] <;> omega) | (simp only [RO, OF])) only [RR, ↓reduceIte, Nat.reduceEqDiff, Nat.reduceLT, Nat.reduceLeDiff, Nat.reduceAdd, Nat.reduceSub, Nat.reduceMul, Nat.reduceMod, Nat.reduceDiv, Nat.reduceBEq, LN, fm_app, NN, NT]; done) | rfl
        · have h8' : x6 = false := Bool.eq_false_iff.2 h8
          refine J.bind fun x7 h9 => ?_
          have e_h9 := H71_0 _ _ h9
          try simp only [NN, NT, LN] at e_h9
          refine J.some ?_
          simp (maxSteps := 20000000) (disch := first | assumption | decide | with_unfolding_all rfl | omega | (simp only [LN] <;> omega) | (simp only [RO, OF])) only [RR, RM, LN, TT, d133_at, ↓reduceIte, Nat.reduceEqDiff, Nat.reduceLT, Nat.reduceLeDiff, Nat.reduceAdd, Nat.reduceSub, Nat.reduceMul, Nat.reduceMod, Nat.reduceDiv, Nat.reduceBEq, RH, h2', h6', e_h7, h8', e_h9, FF, LN, NN, NT]
      · have h6' := decide_eq_false h6
        conv => arg 1; simp (maxSteps := 1000000) (disch := first | assumption | decide | with_unfolding_all rfl | omega | (simp only [LN] <;> omega) | (simp only [RO, OF])) only [RR, RM, LN, TT, d133_at, ↓reduceIte, Nat.reduceEqDiff, Nat.reduceLT, Nat.reduceLeDiff, Nat.reduceAdd, Nat.reduceSub, Nat.reduceMul, Nat.reduceMod, Nat.reduceDiv, Nat.reduceBEq, RH, h2', h6']
        refine J.eq ret_seq ?_
        conv => arg 1; simp (maxSteps := 1000000) (disch := first | assumption | decide | with_unfolding_all rfl | omega | (simp only [LN] <;> omega) | (simp only [RO, OF])) only [RR, RM, LN, TT, d133_at, ↓reduceIte, Nat.reduceEqDiff, Nat.reduceLT, Nat.reduceLeDiff, Nat.reduceAdd, Nat.reduceSub, Nat.reduceMul, Nat.reduceMod, Nat.reduceDiv, Nat.reduceBEq, RH, h2', h6']
        refine J.jmp (t := ()) hj1 ?_ ?_
        · first | rfl | (simp only [LN, NN, NT])
        · first | (simp (disch := first | assumption | decide | with_unfolding_all rfl | omega | (simp only [LN] <;> omega) | (simp only [RO, OF])) only [RR, ↓reduceIte, Nat.reduceEqDiff, Nat.reduceLT, Nat.reduceLeDiff, Nat.reduceAdd, Nat.reduceSub, Nat.reduceMul, Nat.reduceMod, Nat.reduceDiv, Nat.reduceBEq, LN, NN, NT]; done) | (simp (disch := first | assumption | decide | with_unfolding_all rfl | omega | (simp only [LN] <;> omega) | (simp only [RO, OF])) only [RR, ↓reduceIte, Nat.reduceEqDiff, Nat.reduceLT, Nat.reduceLeDiff, Nat.reduceAdd, Nat.reduceSub, Nat.reduceMul, Nat.reduceMod, Nat.reduceDiv, Nat.reduceBEq, LN, fm_app, NN, NT]; done) | rfl
noncomputable def t133 (fu : Nat) : CallP := orE 134 (mkC (fun (t : Int × Bool) => ([.v (.int .i64 t.1), .v (.bool t.2)] : List AV)) (fun t => soft_outwards fu t.1 t.2) e134) (orE 71 (mkC (fun (t : Bool) => ([.v (.bool t)] : List AV)) (fun t => soft_sign fu t) e71) (noP))
theorem t133_ok (fu : Nat) : CpOK Tryz.prog (t133 fu ) := orE_ok (orE_ok (noP_ok) (mkC_ok (fun t b h => ok71 fu t  b h))) (mkC_ok (fun t b h => ok134 fu t.1 t.2  b h))
theorem ok133 (fu : Nat) (x1 : Int) (x2 : Bool) (r) (h : soft_huge fu x1 x2 = some r) : PureOK Tryz.prog 133 [.v (.int .i64 x1), .v (.bool x2)] (e133 r) :=
  pure_J mixed (cp := t133 fu ) (t133_ok fu  ) noI_ok i133 (w133 _ fu x1 x2  (fun a0 a1 r h => orE_hit (mkC_at (a := (a0, a1)) (by intro a b h; first | (exact rfl) | (simp only [INJ, IJ] at h; first | exact h | (simp_all [Prod.ext_iff]) )) h)) (fun a0 r h => orE_miss (by decide) (orE_hit (mkC_at (a := a0) (by intro a b h; first | (exact rfl) | (simp only [INJ, IJ] at h; first | exact h | (simp_all [Prod.ext_iff]) )) h)))) h
/-! 70: lattice/soft.Round -/
def d70 : List (Nat × List Nat) := [(0, [10]), (0, []), (0, [21, 22]), (0, [3, 4, 11]), (0, [24, 25, 26, 27, 28, 29]), (0, [14, 15, 16, 99, 111]), (0, [30, 31]), (0, []), (0, [33, 34, 35, 36, 37, 38]), (0, []), (0, [39, 40, 41]), (0, []), (0, [43, 44]), (0, []), (0, [45, 46, 47]), (0, []), (0, [48, 49, 50, 51, 52]), (0, []), (0, []), (0, []), (0, [53]), (0, []), (0, [54, 55, 56]), (0, []), (0, [57, 58, 59, 60, 61]), (0, []), (0, [62, 63, 64]), (0, []), (0, [65, 66, 67, 68, 69, 70, 71, 72, 73, 74, 75]), (0, []), (0, [18, 76, 77, 78, 79, 80, 81, 82]), (0, []), (0, [17, 83, 84, 85, 86, 87]), (0, []), (0, [89, 90]), (0, []), (0, [91, 92, 93, 94]), (0, []), (0, [96, 97, 98]), (0, []), (0, []), (0, []), (0, []), (0, []), (0, [100, 101, 102, 103, 104, 105, 106, 107]), (0, []), (0, [109, 110]), (0, []), (0, [112]), (0, []), (0, [113]), (0, []), (0, [114, 115, 116, 117, 118]), (0, []), (0, [120, 121]), (0, []), (0, [2, 12, 122, 123, 124]), (0, []), (0, [125]), (0, []), (0, [127, 128]), (0, []), (0, [129]), (0, []), (0, [131, 132, 133]), (0, []), (0, [13, 19, 134, 135, 136, 137, 138, 139]), (0, []), (0, [140]), (0, []), (0, [142, 143, 144]), (0, []), (0, [0, 1, 20, 145, 146, 147, 148, 149]), (0, []), (0, []), (0, []), (0, []), (0, []), (0, []), (0, []), (0, []), (0, []), (0, []), (0, []), (0, []), (0, []), (0, []), (0, []), (0, []), (0, []), (0, []), (0, []), (0, []), (0, []), (0, []), (0, []), (0, []), (0, []), (0, []), (0, []), (0, []), (0, []), (0, []), (0, []), (0, []), (0, []), (0, []), (0, []), (0, []), (0, []), (0, []), (0, []), (0, []), (0, []), (0, []), (0, []), (0, []), (0, []), (0, []), (0, []), (0, []), (0, []), (0, []), (0, []), (0, []), (0, []), (0, []), (0, []), (0, []), (0, []), (0, []), (0, []), (0, []), (0, []), (0, []), (0, []), (0, []), (0, []), (0, []), (0, []), (0, []), (0, []), (0, []), (0, []), (0, []), (0, []), (0, []), (0, []), (0, []), (0, []), (0, []), (0, []), (0, []), (0, []), (0, []), (0, []), (0, []), (0, []), (0, []), (0, []), (0, []), (0, []), (0, []), (0, []), (0, []), (0, []), (0, []), (0, []), (0, []), (0, []), (0, []), (0, []), (0, []), (0, []), (0, []), (0, []), (0, []), (0, []), (0, []), (0, []), (0, []), (0, []), (0, []), (0, []), (0, []), (0, []), (0, []), (0, []), (0, []), (0, []), (0, []), (0, []), (0, []), (0, []), (0, []), (0, []), (0, []), (0, []), (0, []), (0, []), (0, []), (0, []), (0, []), (0, []), (0, []), (0, []), (0, []), (0, []), (0, []), (0, []), (0, []), (0, []), (0, []), (0, []), (0, []), (0, []), (0, []), (0, []), (0, []), (0, []), (0, []), (0, []), (0, []), (1, [])]
def d70_at := And.intro (show d70.getD 0 (0, []) = (0, [10]) from rfl) <| And.intro (show d70.getD 1 (0, []) = (0, []) from rfl) <| And.intro (show d70.getD 2 (0, []) = (0, [21, 22]) from rfl) <| And.intro (show d70.getD 3 (0, []) = (0, [3, 4, 11]) from rfl) <| And.intro (show d70.getD 4 (0, []) = (0, [24, 25, 26, 27, 28, 29]) from rfl) <| And.intro (show d70.getD 5 (0, []) = (0, [14, 15, 16, 99, 111]) from rfl) <| And.intro (show d70.getD 6 (0, []) = (0, [30, 31]) from rfl) <| And.intro (show d70.getD 7 (0, []) = (0, []) from rfl) <| And.intro (show d70.getD 8 (0, []) = (0, [33, 34, 35, 36, 37, 38]) from rfl) <| And.intro (show d70.getD 9 (0, []) = (0, []) from rfl) <| And.intro (show d70.getD 10 (0, []) = (0, [39, 40, 41]) from rfl) <| And.intro (show d70.getD 11 (0, []) = (0, []) from rfl) <| And.intro (show d70.getD 12 (0, []) = (0, [43, 44]) from rfl) <| And.intro (show d70.getD 13 (0, []) = (0, []) from rfl) <| And.intro (show d70.getD 14 (0, []) = (0, [45, 46, 47]) from rfl) <| And.intro (show d70.getD 15 (0, []) = (0, []) from rfl) <| And.intro (show d70.getD 16 (0, []) = (0, [48, 49, 50, 51, 52]) from rfl) <| And.intro (show d70.getD 17 (0, []) = (0, []) from rfl) <| And.intro (show d70.getD 18 (0, []) = (0, []) from rfl) <| And.intro (show d70.getD 19 (0, []) = (0, []) from rfl) <| And.intro (show d70.getD 20 (0, []) = (0, [53]) from rfl) <| And.intro (show d70.getD 21 (0, []) = (0, []) from rfl) <| And.intro (show d70.getD 22 (0, []) = (0, [54, 55, 56]) from rfl) <| And.intro (show d70.getD 23 (0, []) = (0, []) from rfl) <| And.intro (show d70.getD 24 (0, []) = (0, [57, 58, 59, 60, 61]) from rfl) <| And.intro (show d70.getD 25 (0, []) = (0, []) from rfl) <| And.intro (show d70.getD 26 (0, []) = (0, [62, 63, 64]) from rfl) <| And.intro (show d70.getD 27 (0, []) = (0, []) from rfl) <| And.intro (show d70.getD 28 (0, []) = (0, [65, 66, 67, 68, 69, 70, 71, 72, 73, 74, 75]) from rfl) <| And.intro (show d70.getD 29 (0, []) = (0, []) from rfl) <| And.intro (show d70.getD 30 (0, []) = (0, [18, 76, 77, 78, 79, 80, 81, 82]) from rfl) <| And.intro (show d70.getD 31 (0, []) = (0, []) from rfl) <| And.intro (show d70.getD 32 (0, []) = (0, [17, 83, 84, 85, 86, 87]) from rfl) <| And.intro (show d70.getD 33 (0, []) = (0, []) from rfl) <| And.intro (show d70.getD 34 (0, []) = (0, [89, 90]) from rfl) <| And.intro (show d70.getD 35 (0, []) = (0, []) from rfl) <| And.intro (show d70.getD 36 (0, []) = (0, [91, 92, 93, 94]) from rfl) <| And.intro (show d70.getD 37 (0, []) = (0, []) from rfl) <| And.intro (show d70.getD 38 (0, []) = (0, [96, 97, 98]) from rfl) <| And.intro (show d70.getD 39 (0, []) = (0, []) from rfl) <| And.intro (show d70.getD 40 (0, []) = (0, []) from rfl) <| And.intro (show d70.getD 41 (0, []) = (0, []) from rfl) <| And.intro (show d70.getD 42 (0, []) = (0, []) from rfl) <| And.intro (show d70.getD 43 (0, []) = (0, []) from rfl) <| And.intro (show d70.getD 44 (0, []) = (0, [100, 101, 102, 103, 104, 105, 106, 107]) from rfl) <| And.intro (show d70.getD 45 (0, []) = (0, []) from rfl) <| And.intro (show d70.getD 46 (0, []) = (0, [109, 110]) from rfl) <| And.intro (show d70.getD 47 (0, []) = (0, []) from rfl) <| And.intro (show d70.getD 48 (0, []) = (0, [112]) from rfl) <| And.intro (show d70.getD 49 (0, []) = (0, []) from rfl) <| And.intro (show d70.getD 50 (0, []) = (0, [113]) from rfl) <| And.intro (show d70.getD 51 (0, []) = (0, []) from rfl) <| And.intro (show d70.getD 52 (0, []) = (0, [114, 115, 116, 117, 118]) from rfl) <| And.intro (show d70.getD 53 (0, []) = (0, []) from rfl) <| And.intro (show d70.getD 54 (0, []) = (0, [120, 121]) from rfl) <| And.intro (show d70.getD 55 (0, []) = (0, []) from rfl) <| And.intro (show d70.getD 56 (0, []) = (0, [2, 12, 122, 123, 124]) from rfl) <| And.intro (show d70.getD 57 (0, []) = (0, []) from rfl) <| And.intro (show d70.getD 58 (0, []) = (0, [125]) from rfl) <| And.intro (show d70.getD 59 (0, []) = (0, []) from rfl) <| And.intro (show d70.getD 60 (0, []) = (0, [127, 128]) from rfl) <| And.intro (show d70.getD 61 (0, []) = (0, []) from rfl) <| And.intro (show d70.getD 62 (0, []) = (0, [129]) from rfl) <| And.intro (show d70.getD 63 (0, []) = (0, []) from rfl) <| And.intro (show d70.getD 64 (0, []) = (0, [131, 132, 133]) from rfl) <| And.intro (show d70.getD 65 (0, []) = (0, []) from rfl) <| And.intro (show d70.getD 66 (0, []) = (0, [13, 19, 134, 135, 136, 137, 138, 139]) from rfl) <| And.intro (show d70.getD 67 (0, []) = (0, []) from rfl) <| And.intro (show d70.getD 68 (0, []) = (0, [140]) from rfl) <| And.intro (show d70.getD 69 (0, []) = (0, []) from rfl) <| And.intro (show d70.getD 70 (0, []) = (0, [142, 143, 144]) from rfl) <| And.intro (show d70.getD 71 (0, []) = (0, []) from rfl) <| And.intro (show d70.getD 72 (0, []) = (0, [0, 1, 20, 145, 146, 147, 148, 149]) from rfl) <| And.intro (show d70.getD 73 (0, []) = (0, []) from rfl) <| And.intro (show d70.getD 74 (0, []) = (0, []) from rfl) <| And.intro (show d70.getD 75 (0, []) = (0, []) from rfl) <| And.intro (show d70.getD 76 (0, []) = (0, []) from rfl) <| And.intro (show d70.getD 77 (0, []) = (0, []) from rfl) <| And.intro (show d70.getD 78 (0, []) = (0, []) from rfl) <| And.intro (show d70.getD 79 (0, []) = (0, []) from rfl) <| And.intro (show d70.getD 80 (0, []) = (0, []) from rfl) <| And.intro (show d70.getD 81 (0, []) = (0, []) from rfl) <| And.intro (show d70.getD 82 (0, []) = (0, []) from rfl) <| And.intro (show d70.getD 83 (0, []) = (0, []) from rfl) <| And.intro (show d70.getD 84 (0, []) = (0, []) from rfl) <| And.intro (show d70.getD 85 (0, []) = (0, []) from rfl) <| And.intro (show d70.getD 86 (0, []) = (0, []) from rfl) <| And.intro (show d70.getD 87 (0, []) = (0, []) from rfl) <| And.intro (show d70.getD 88 (0, []) = (0, []) from rfl) <| And.intro (show d70.getD 89 (0, []) = (0, []) from rfl) <| And.intro (show d70.getD 90 (0, []) = (0, []) from rfl) <| And.intro (show d70.getD 91 (0, []) = (0, []) from rfl) <| And.intro (show d70.getD 92 (0, []) = (0, []) from rfl) <| And.intro (show d70.getD 93 (0, []) = (0, []) from rfl) <| And.intro (show d70.getD 94 (0, []) = (0, []) from rfl) <| And.intro (show d70.getD 95 (0, []) = (0, []) from rfl) <| And.intro (show d70.getD 96 (0, []) = (0, []) from rfl) <| And.intro (show d70.getD 97 (0, []) = (0, []) from rfl) <| And.intro (show d70.getD 98 (0, []) = (0, []) from rfl) <| And.intro (show d70.getD 99 (0, []) = (0, []) from rfl) <| And.intro (show d70.getD 100 (0, []) = (0, []) from rfl) <| And.intro (show d70.getD 101 (0, []) = (0, []) from rfl) <| And.intro (show d70.getD 102 (0, []) = (0, []) from rfl) <| And.intro (show d70.getD 103 (0, []) = (0, []) from rfl) <| And.intro (show d70.getD 104 (0, []) = (0, []) from rfl) <| And.intro (show d70.getD 105 (0, []) = (0, []) from rfl) <| And.intro (show d70.getD 106 (0, []) = (0, []) from rfl) <| And.intro (show d70.getD 107 (0, []) = (0, []) from rfl) <| And.intro (show d70.getD 108 (0, []) = (0, []) from rfl) <| And.intro (show d70.getD 109 (0, []) = (0, []) from rfl) <| And.intro (show d70.getD 110 (0, []) = (0, []) from rfl) <| And.intro (show d70.getD 111 (0, []) = (0, []) from rfl) <| And.intro (show d70.getD 112 (0, []) = (0, []) from rfl) <| And.intro (show d70.getD 113 (0, []) = (0, []) from rfl) <| And.intro (show d70.getD 114 (0, []) = (0, []) from rfl) <| And.intro (show d70.getD 115 (0, []) = (0, []) from rfl) <| And.intro (show d70.getD 116 (0, []) = (0, []) from rfl) <| And.intro (show d70.getD 117 (0, []) = (0, []) from rfl) <| And.intro (show d70.getD 118 (0, []) = (0, []) from rfl) <| And.intro (show d70.getD 119 (0, []) = (0, []) from rfl) <| And.intro (show d70.getD 120 (0, []) = (0, []) from rfl) <| And.intro (show d70.getD 121 (0, []) = (0, []) from rfl) <| And.intro (show d70.getD 122 (0, []) = (0, []) from rfl) <| And.intro (show d70.getD 123 (0, []) = (0, []) from rfl) <| And.intro (show d70.getD 124 (0, []) = (0, []) from rfl) <| And.intro (show d70.getD 125 (0, []) = (0, []) from rfl) <| And.intro (show d70.getD 126 (0, []) = (0, []) from rfl) <| And.intro (show d70.getD 127 (0, []) = (0, []) from rfl) <| And.intro (show d70.getD 128 (0, []) = (0, []) from rfl) <| And.intro (show d70.getD 129 (0, []) = (0, []) from rfl) <| And.intro (show d70.getD 130 (0, []) = (0, []) from rfl) <| And.intro (show d70.getD 131 (0, []) = (0, []) from rfl) <| And.intro (show d70.getD 132 (0, []) = (0, []) from rfl) <| And.intro (show d70.getD 133 (0, []) = (0, []) from rfl) <| And.intro (show d70.getD 134 (0, []) = (0, []) from rfl) <| And.intro (show d70.getD 135 (0, []) = (0, []) from rfl) <| And.intro (show d70.getD 136 (0, []) = (0, []) from rfl) <| And.intro (show d70.getD 137 (0, []) = (0, []) from rfl) <| And.intro (show d70.getD 138 (0, []) = (0, []) from rfl) <| And.intro (show d70.getD 139 (0, []) = (0, []) from rfl) <| And.intro (show d70.getD 140 (0, []) = (0, []) from rfl) <| And.intro (show d70.getD 141 (0, []) = (0, []) from rfl) <| And.intro (show d70.getD 142 (0, []) = (0, []) from rfl) <| And.intro (show d70.getD 143 (0, []) = (0, []) from rfl) <| And.intro (show d70.getD 144 (0, []) = (0, []) from rfl) <| And.intro (show d70.getD 145 (0, []) = (0, []) from rfl) <| And.intro (show d70.getD 146 (0, []) = (0, []) from rfl) <| And.intro (show d70.getD 147 (0, []) = (0, []) from rfl) <| And.intro (show d70.getD 148 (0, []) = (0, []) from rfl) <| And.intro (show d70.getD 149 (0, []) = (0, []) from rfl) <| And.intro (show d70.getD 150 (0, []) = (0, []) from rfl) <| And.intro (show d70.getD 151 (0, []) = (0, []) from rfl) <| And.intro (show d70.getD 152 (0, []) = (0, []) from rfl) <| And.intro (show d70.getD 153 (0, []) = (0, []) from rfl) <| And.intro (show d70.getD 154 (0, []) = (0, []) from rfl) <| And.intro (show d70.getD 155 (0, []) = (0, []) from rfl) <| And.intro (show d70.getD 156 (0, []) = (0, []) from rfl) <| And.intro (show d70.getD 157 (0, []) = (0, []) from rfl) <| And.intro (show d70.getD 158 (0, []) = (0, []) from rfl) <| And.intro (show d70.getD 159 (0, []) = (0, []) from rfl) <| And.intro (show d70.getD 160 (0, []) = (0, []) from rfl) <| And.intro (show d70.getD 161 (0, []) = (0, []) from rfl) <| And.intro (show d70.getD 162 (0, []) = (0, []) from rfl) <| And.intro (show d70.getD 163 (0, []) = (0, []) from rfl) <| And.intro (show d70.getD 164 (0, []) = (0, []) from rfl) <| And.intro (show d70.getD 165 (0, []) = (0, []) from rfl) <| And.intro (show d70.getD 166 (0, []) = (0, []) from rfl) <| And.intro (show d70.getD 167 (0, []) = (0, []) from rfl) <| And.intro (show d70.getD 168 (0, []) = (0, []) from rfl) <| And.intro (show d70.getD 169 (0, []) = (0, []) from rfl) <| And.intro (show d70.getD 170 (0, []) = (0, []) from rfl) <| And.intro (show d70.getD 171 (0, []) = (0, []) from rfl) <| And.intro (show d70.getD 172 (0, []) = (0, []) from rfl) <| And.intro (show d70.getD 173 (0, []) = (0, []) from rfl) <| And.intro (show d70.getD 174 (0, []) = (0, []) from rfl) <| And.intro (show d70.getD 175 (0, []) = (0, []) from rfl) <| And.intro (show d70.getD 176 (0, []) = (0, []) from rfl) <| And.intro (show d70.getD 177 (0, []) = (0, []) from rfl) <| And.intro (show d70.getD 178 (0, []) = (0, []) from rfl) <| And.intro (show d70.getD 179 (0, []) = (0, []) from rfl) <| And.intro (show d70.getD 180 (0, []) = (0, []) from rfl) <| And.intro (show d70.getD 181 (0, []) = (0, []) from rfl) <| And.intro (show d70.getD 182 (0, []) = (0, []) from rfl) <| And.intro (show d70.getD 183 (0, []) = (0, []) from rfl) <| And.intro (show d70.getD 184 (0, []) = (0, []) from rfl) <| And.intro (show d70.getD 185 (0, []) = (0, []) from rfl) <| And.intro (show d70.getD 186 (0, []) = (0, []) from rfl) <| And.intro (show d70.getD 187 (0, []) = (0, []) from rfl) <| And.intro (show d70.getD 188 (0, []) = (0, []) from rfl) <| And.intro (show d70.getD 189 (0, []) = (0, []) from rfl) <| And.intro (show d70.getD 190 (0, []) = (0, []) from rfl) <| And.intro (show d70.getD 191 (0, []) = (0, []) from rfl) <| And.intro (show d70.getD 192 (0, []) = (0, []) from rfl) <| And.intro (show d70.getD 193 (0, []) = (0, []) from rfl) <| And.intro (show d70.getD 194 (0, []) = (0, []) from rfl) <| And.intro (show d70.getD 195 (0, []) = (0, []) from rfl) <| And.intro (show d70.getD 196 (0, []) = (0, []) from rfl) <| And.intro (show d70.getD 197 (0, []) = (0, []) from rfl) <| And.intro (show d70.getD 198 (0, []) = (0, []) from rfl) <| And.intro (show d70.getD 199 (0, []) = (0, []) from rfl) <| And.intro (show d70.getD 200 (0, []) = (0, []) from rfl) <| And.intro (show d70.getD 201 (0, []) = (0, []) from rfl) <| And.intro (show d70.getD 202 (0, []) = (0, []) from rfl) <| And.intro (show d70.getD 203 (0, []) = (0, []) from rfl) <| And.intro (show d70.getD 204 (0, []) = (0, []) from rfl) <| And.intro (show d70.getD 205 (0, []) = (0, []) from rfl) <| And.intro (show d70.getD 206 (0, []) = (0, []) from rfl) <| And.intro (show d70.getD 207 (0, []) = (0, []) from rfl) <| And.intro (show d70.getD 208 (0, []) = (0, []) from rfl) <| And.intro (show d70.getD 209 (0, []) = (0, []) from rfl) <| And.intro (show d70.getD 210 (0, []) = (0, []) from rfl) <| And.intro (show d70.getD 211 (0, []) = (0, []) from rfl) <| And.intro (show d70.getD 212 (0, []) = (0, []) from rfl) <| And.intro (show d70.getD 213 (0, []) = (0, []) from rfl) <| And.intro (show d70.getD 214 (0, []) = (0, []) from rfl) <| And.intro (show d70.getD 215 (0, []) = (0, []) from rfl) <| And.intro (show d70.getD 216 (0, []) = (0, []) from rfl) <| And.intro (show d70.getD 217 (0, []) = (0, []) from rfl) <| And.intro (show d70.getD 218 (0, []) = (0, []) from rfl) <| And.intro (show d70.getD 219 (0, []) = (0, []) from rfl) <| And.intro (show d70.getD 220 (0, []) = (0, []) from rfl) <| And.intro (show d70.getD 221 (0, []) = (0, []) from rfl) <| And.intro (show d70.getD 222 (0, []) = (0, []) from rfl) <| (show d70.getD 223 (0, []) = (1, []) from rfl)
theorem i70 : finfo Tryz.prog 70 d70 = some ⟨bodyOf Tryz.f70, [.tmp 10], [24]⟩ := finfo_at Tryz.func70 rfl (by kernel_rfl) (by kernel_rfl)
def e70 : Int → AV := fun r => .v (.int .u32 r)
set_option maxHeartbeats 20000000 in
theorem w70 (cp : CallP) (fu : Nat) (x1 : Int) (x2 : Bool) (x3 : Int) (x4 : Int) (x5 : Bool) (H131_0 : ∀ (a0 : Int) r, math_bits_Len64 fu a0 = some r → cp 131 [.v (.int .u64 a0)] = some (.v (.int .i64 r))) (H132_0 : ∀ (a0 : Int) (a1 : Bool) r, soft_tiny fu a0 a1 = some r → cp 132 [.v (.int .i64 a0), .v (.bool a1)] = some (.v (.int .u32 r))) (H71_0 : ∀ (a0 : Bool) r, soft_sign fu a0 = some r → cp 71 [.v (.bool a0)] = some (.v (.int .u32 r))) (H133_0 : ∀ (a0 : Int) (a1 : Bool) r, soft_huge fu a0 a1 = some r → cp 133 [.v (.int .i64 a0), .v (.bool a1)] = some (.v (.int .u32 r))) (H134_0 : ∀ (a0 : Int) (a1 : Bool) r, soft_outwards fu a0 a1 = some r → cp 134 [.v (.int .i64 a0), .v (.bool a1)] = some (.v (.bool r))) : J (go Tryz.prog noC cp noI 0 [] d70 fu (fin Tryz.prog [.tmp 10] [24]) (bodyOf Tryz.f70) (initE 0 [.v (.int .i64 x1), .v (.bool x2), .v (.int .i64 x3), .v (.int .u64 x4), .v (.bool x5)]) [] []) (soft_Round fu x1 x2 x3 x4 x5) e70 := by
  unfold soft_Round e70
  refine J.bind fun x6 h1 => ?_
  have e_h1 := H131_0 _ _ h1
  try simp only [NN, NT, LN] at e_h1
  conv => arg 1; simp (maxSteps := 1000000) (disch := first | assumption | decide | with_unfolding_all rfl | omega | (simp only [LN] <;> omega) | (simp only [RO, OF])) only [bodyOf, Tryz.f70, RR, RM, LN, TT, d70_at, ↓reduceIte, Nat.reduceEqDiff, Nat.reduceLT, Nat.reduceLeDiff, Nat.reduceAdd, Nat.reduceSub, Nat.reduceMul, Nat.reduceMod, Nat.reduceDiv, Nat.reduceBEq, RH, e_h1]
  refine J.joinS (fun (t : Unit) => ([(0, .v (.int .i64 x1)), (1, .v (.bool x2)), (2, .v (.int .i64 x3)), (3, .v (.int .u64 x4)), (4, .v (.bool x5)), (11, .v (.int .i64 x6))], [])) (fun t => soft_Round_k1 fu x1 x2 x3 x4 x5 x6) ?_ (fun hj1 => ?_)
  · rintro ⟨⟩
    show J _ (soft_Round_k1 fu x1 x2 x3 x4 x5 x6) _
    unfold soft_Round_k1
    conv => arg 1; simp (maxSteps := 1000000) (disch := first | assumption | decide | with_unfolding_all rfl | omega | (simp only [LN] <;> omega) | (simp only [RO, OF])) only [RR, RM, LN, TT, d70_at, ↓reduceIte, Nat.reduceEqDiff, Nat.reduceLT, Nat.reduceLeDiff, Nat.reduceAdd, Nat.reduceSub, Nat.reduceMul, Nat.reduceMod, Nat.reduceDiv, Nat.reduceBEq, RH, e_h1]
    refine J.joinS (fun (t : Int × Bool × Bool × Bool) => ([(0, .v (.int .i64 x1)), (1, .v (.bool x2)), (2, .v (.int .i64 x3)), (12, .v (.int .i64 (imax (wk .i64 (x6 - 24)) (wk .i64 ((-149) - x3))))), (13, .v (.int .u64 t.1)), (14, .v (.bool t.2.1)), (15, .v (.bool t.2.2.1)), (16, .v (.bool t.2.2.2))], [])) (fun t => soft_Round_k2 fu x1 x2 x3 x6 t.1 t.2.1 t.2.2.1 t.2.2.2) ?_ (fun hj2 => ?_)
    · rintro ⟨x7, x8, x9, x10⟩
      show J _ (soft_Round_k2 fu x1 x2 x3 x6 x7 x8 x9 x10) _
      unfold soft_Round_k2
      refine J.joinS (fun (t : Int) => ([(0, .v (.int .i64 x1)), (1, .v (.bool x2)), (2, .v (.int .i64 x3)), (12, .v (.int .i64 (imax (wk .i64 (x6 - 24)) (wk .i64 ((-149) - x3))))), (13, .v (.int .u64 t))], [])) (fun t => soft_Round_k3 fu x1 x2 x3 x6 t) ?_ (fun hj3 => ?_)
      · rintro x11
        show J _ (soft_Round_k3 fu x1 x2 x3 x6 x11) _
        unfold soft_Round_k3
        conv => arg 1; simp (maxSteps := 1000000) (disch := first | assumption | decide | with_unfolding_all rfl | omega | (simp only [LN] <;> omega) | (simp only [RO, OF])) only [RR, RM, LN, TT, d70_at, ↓reduceIte, Nat.reduceEqDiff, Nat.reduceLT, Nat.reduceLeDiff, Nat.reduceAdd, Nat.reduceSub, Nat.reduceMul, Nat.reduceMod, Nat.reduceDiv, Nat.reduceBEq, RH, e_h1]
        refine J.eq go_seq ?_
        conv => arg 1; simp (maxSteps := 1000000) (disch := first | assumption | decide | with_unfolding_all rfl | omega | (simp only [LN] <;> omega) | (simp only [RO, OF])) only [RR, RM, LN, TT, d70_at, ↓reduceIte, Nat.reduceEqDiff, Nat.reduceLT, Nat.reduceLeDiff, Nat.reduceAdd, Nat.reduceSub, Nat.reduceMul, Nat.reduceMod, Nat.reduceDiv, Nat.reduceBEq, RH, e_h1]
        refine J.ite (fun h2 => ?_) (fun h2 => ?_)
        · have h2' := decide_eq_true h2
          refine J.bind fun x12 h3 => ?_
          have e_h3 := H71_0 _ _ h3
          try simp only [NN, NT, LN] at e_h3
          refine J.some ?_
          simp (maxSteps := 20000000) (disch := first | assumption | decide | with_unfolding_all rfl | omega | (simp only [LN] <;> omega) | (simp only [RO, OF])) only [RR, RM, LN, TT, d70_at, ↓reduceIte, Nat.reduceEqDiff, Nat.reduceLT, Nat.reduceLeDiff, Nat.reduceAdd, Nat.reduceSub, Nat.reduceMul, Nat.reduceMod, Nat.reduceDiv, Nat.reduceBEq, RH, e_h1, h2', e_h3, FF, LN, NN, NT]
        · have h2' := decide_eq_false h2
          conv => arg 1; simp (maxSteps := 1000000) (disch := first | assumption | decide | with_unfolding_all rfl | omega | (simp only [LN] <;> omega) | (simp only [RO, OF])) only [RR, RM, LN, TT, d70_at, ↓reduceIte, Nat.reduceEqDiff, Nat.reduceLT, Nat.reduceLeDiff, Nat.reduceAdd, Nat.reduceSub, Nat.reduceMul, Nat.reduceMod, Nat.reduceDiv, Nat.reduceBEq, RH, e_h1, h2']
          refine J.eq ret_seq ?_
          refine J.eq go_seq ?_
          conv => arg 1; simp (maxSteps := 1000000) (disch := first | assumption | decide | with_unfolding_all rfl | omega | (simp only [LN] <;> omega) | (simp only [RO, OF])) only [RR, RM, LN, TT, d70_at, ↓reduceIte, Nat.reduceEqDiff, Nat.reduceLT, Nat.reduceLeDiff, Nat.reduceAdd, Nat.reduceSub, Nat.reduceMul, Nat.reduceMod, Nat.reduceDiv, Nat.reduceBEq, RH, e_h1, h2']
          refine J.ite (fun h4 => ?_) (fun h4 => ?_)
          · have h4' := decide_eq_true h4
            have h4'' : decide ((wk .i64 (x3 + (imax (wk .i64 (x6 - 24)) (wk .i64 ((-149) - x3))))) ≤ 104) = false := decide_eq_false (by omega)
            refine J.bind fun x13 h5 => ?_
            have e_h5 := H133_0 _ _ _ h5
            try simp only [NN, NT, LN] at e_h5
            refine J.some ?_
            simp (maxSteps := 20000000) (disch := first | assumption | decide | with_unfolding_all rfl | omega | (simp only [LN] <;> omega) | (simp only [RO, OF])) only [RR, RM, LN, TT, d70_at, ↓reduceIte, Nat.reduceEqDiff, Nat.reduceLT, Nat.reduceLeDiff, Nat.reduceAdd, Nat.reduceSub, Nat.reduceMul, Nat.reduceMod, Nat.reduceDiv, Nat.reduceBEq, RH, e_h1, h2', h4'', h4', e_h5, FF, LN, NN, NT]
          · have h4' := decide_eq_false h4
            have h4'' : decide ((wk .i64 (x3 + (imax (wk .i64 (x6 - 24)) (wk .i64 ((-149) - x3))))) ≤ 104) = true := decide_eq_true (by omega)
            conv => arg 1; simp (maxSteps := 1000000) (disch := first | assumption | decide | with_unfolding_all rfl | omega | (simp only [LN] <;> omega) | (simp only [RO, OF])) only [RR, RM, LN, TT, d70_at, ↓reduceIte, Nat.reduceEqDiff, Nat.reduceLT, Nat.reduceLeDiff, Nat.reduceAdd, Nat.reduceSub, Nat.reduceMul, Nat.reduceMod, Nat.reduceDiv, Nat.reduceBEq, RH, e_h1, h2', h4'', h4']
            refine J.eq ret_seq ?_
            conv => arg 1; simp (maxSteps := 1000000) (disch := first | assumption | decide | with_unfolding_all rfl | omega | (simp only [LN] <;> omega) | (simp only [RO, OF])) only [RR, RM, LN, TT, d70_at, ↓reduceIte, Nat.reduceEqDiff, Nat.reduceLT, Nat.reduceLeDiff, Nat.reduceAdd, Nat.reduceSub, Nat.reduceMul, Nat.reduceMod, Nat.reduceDiv, Nat.reduceBEq, RH, e_h1, h2', h4'', h4']
            refine J.eq go_seq ?_
            conv => arg 1; simp (maxSteps := 1000000) (disch := first | assumption | decide | with_unfolding_all rfl | omega | (simp only [LN] <;> omega) | (simp only [RO, OF])) only [RR, RM, LN, TT, d70_at, ↓reduceIte, Nat.reduceEqDiff, Nat.reduceLT, Nat.reduceLeDiff, Nat.reduceAdd, Nat.reduceSub, Nat.reduceMul, Nat.reduceMod, Nat.reduceDiv, Nat.reduceBEq, RH, e_h1, h2', h4'', h4']
            refine J.ite (fun h6 => ?_) (fun h6 => ?_)
            · have h6' := decide_eq_true h6
              have h6'' : decide ((wk .u64 ((shlk .u64 (wk .u64 (wk .i64 ((wk .i64 (x3 + (imax (wk .i64 (x6 - 24)) (wk .i64 ((-149) - x3))))) + 149))) 23) + x11)) < 2139095040) = false := decide_eq_false (by omega)
              refine J.bind fun x14 h7 => ?_
              have e_h7 := H133_0 _ _ _ h7
              try simp only [NN, NT, LN] at e_h7
              refine J.some ?_
              simp (maxSteps := 20000000) (disch := first | assumption | decide | with_unfolding_all rfl | omega | (simp only [LN] <;> omega) | (simp only [RO, OF])) only [RR, RM, LN, TT, d70_at, ↓reduceIte, Nat.reduceEqDiff, Nat.reduceLT, Nat.reduceLeDiff, Nat.reduceAdd, Nat.reduceSub, Nat.reduceMul, Nat.reduceMod, Nat.reduceDiv, Nat.reduceBEq, RH, e_h1, h2', h4'', h4', h6'', h6', e_h7, FF, LN, NN, NT]
            · have h6' := decide_eq_false h6
              have h6'' : decide ((wk .u64 ((shlk .u64 (wk .u64 (wk .i64 ((wk .i64 (x3 + (imax (wk .i64 (x6 - 24)) (wk .i64 ((-149) - x3))))) + 149))) 23) + x11)) < 2139095040) = true := decide_eq_true (by omega)
              conv => arg 1; simp (maxSteps := 1000000) (disch := first | assumption | decide | with_unfolding_all rfl | omega | (simp only [LN] <;> omega) | (simp only [RO, OF])) only [RR, RM, LN, TT, d70_at, ↓reduceIte, Nat.reduceEqDiff, Nat.reduceLT, Nat.reduceLeDiff, Nat.reduceAdd, Nat.reduceSub, Nat.reduceMul, Nat.reduceMod, Nat.reduceDiv, Nat.reduceBEq, RH, e_h1, h2', h4'', h4', h6'', h6']
              refine J.eq ret_seq ?_
              refine J.bind fun x15 h8 => ?_
              have e_h8 := H71_0 _ _ h8
              try simp only [NN, NT, LN] at e_h8
              refine J.some ?_
              simp (maxSteps := 20000000) (disch := first | assumption | decide | with_unfolding_all rfl | omega | (simp only [LN] <;> omega) | (simp only [RO, OF])) only [RR, RM, LN, TT, d70_at, ↓reduceIte, Nat.reduceEqDiff, Nat.reduceLT, Nat.reduceLeDiff, Nat.reduceAdd, Nat.reduceSub, Nat.reduceMul, Nat.reduceMod, Nat.reduceDiv, Nat.reduceBEq, RH, e_h1, h2', h4'', h4', h6'', h6', e_h8, FF, LN, NN, NT]
      · conv => arg 1; simp (maxSteps := 1000000) (disch := first | assumption | decide | with_unfolding_all rfl | omega | (simp only [LN] <;> omega) | (simp only [RO, OF])) only [RR, RM, LN, TT, d70_at, ↓reduceIte, Nat.reduceEqDiff, Nat.reduceLT, Nat.reduceLeDiff, Nat.reduceAdd, Nat.reduceSub, Nat.reduceMul, Nat.reduceMod, Nat.reduceDiv, Nat.reduceBEq, RH, e_h1]
        refine J.eq go_seq ?_
        conv => arg 1; simp (maxSteps := 1000000) (disch := first | assumption | decide | with_unfolding_all rfl | omega | (simp only [LN] <;> omega) | (simp only [RO, OF])) only [RR, RM, LN, TT, d70_at, ↓reduceIte, Nat.reduceEqDiff, Nat.reduceLT, Nat.reduceLeDiff, Nat.reduceAdd, Nat.reduceSub, Nat.reduceMul, Nat.reduceMod, Nat.reduceDiv, Nat.reduceBEq, RH, e_h1]
        refine J.ite (fun h9 => ?_) (fun h9 => ?_)
        · have h9' := decide_eq_true h9
          conv => arg 1; simp (maxSteps := 1000000) (disch := first | assumption | decide | with_unfolding_all rfl | omega | (simp only [LN] <;> omega) | (simp only [RO, OF])) only [RR, RM, LN, TT, d70_at, ↓reduceIte, Nat.reduceEqDiff, Nat.reduceLT, Nat.reduceLeDiff, Nat.reduceAdd, Nat.reduceSub, Nat.reduceMul, Nat.reduceMod, Nat.reduceDiv, Nat.reduceBEq, RH, e_h1, h9']
          refine J.eq ret_seq ?_
          conv => arg 1; simp (maxSteps := 1000000) (disch := first | assumption | decide | with_unfolding_all rfl | omega | (simp only [LN] <;> omega) | (simp only [RO, OF])) only [RR, RM, LN, TT, d70_at, ↓reduceIte, Nat.reduceEqDiff, Nat.reduceLT, Nat.reduceLeDiff, Nat.reduceAdd, Nat.reduceSub, Nat.reduceMul, Nat.reduceMod, Nat.reduceDiv, Nat.reduceBEq, RH, e_h1, h9']
          refine J.eq go_seq ?_
          conv => arg 1; simp (maxSteps := 1000000) (disch := first | assumption | decide | with_unfolding_all rfl | omega | (simp only [LN] <;> omega) | (simp only [RO, OF])) only [RR, RM, LN, TT, d70_at, ↓reduceIte, Nat.reduceEqDiff, Nat.reduceLT, Nat.reduceLeDiff, Nat.reduceAdd, Nat.reduceSub, Nat.reduceMul, Nat.reduceMod, Nat.reduceDiv, Nat.reduceBEq, RH, e_h1, h9']
          refine J.ite (fun h10 => ?_) (fun h10 => ?_)
          · have h10' : x10 = true := h10
            refine J.bind fun x16 h11 => ?_
            have e_h11 := H134_0 _ _ _ h11
            try simp only [NN, NT, LN] at e_h11
            conv => arg 1; simp (maxSteps := 1000000) (disch := first | assumption | decide | with_unfolding_all rfl | omega | (simp only [LN] <;> omega) | (simp only [RO, OF])) only [RR, RM, LN, TT, d70_at, ↓reduceIte, Nat.reduceEqDiff, Nat.reduceLT, Nat.reduceLeDiff, Nat.reduceAdd, Nat.reduceSub, Nat.reduceMul, Nat.reduceMod, Nat.reduceDiv, Nat.reduceBEq, RH, e_h1, h9', h10', e_h11]
            refine J.eq ret_seq ?_
            conv => arg 1; simp (maxSteps := 1000000) (disch := first | assumption | decide | with_unfolding_all rfl | omega | (simp only [LN] <;> omega) | (simp only [RO, OF])) only [RR, RM, LN, TT, d70_at, ↓reduceIte, Nat.reduceEqDiff, Nat.reduceLT, Nat.reduceLeDiff, Nat.reduceAdd, Nat.reduceSub, Nat.reduceMul, Nat.reduceMod, Nat.reduceDiv, Nat.reduceBEq, RH, e_h1, h9', h10', e_h11]
            refine J.ite (fun h12 => ?_) (fun h12 => ?_)
            · have h12' : x16 = true := h12
              conv => arg 1; simp (maxSteps := 1000000) (disch := first | assumption | decide | with_unfolding_all rfl | omega | (simp only [LN] <;> omega) | (simp only [RO, OF])) only [RR, RM, LN, TT, d70_at, ↓reduceIte, Nat.reduceEqDiff, Nat.reduceLT, Nat.reduceLeDiff, Nat.reduceAdd, Nat.reduceSub, Nat.reduceMul, Nat.reduceMod, Nat.reduceDiv, Nat.reduceBEq, RH, e_h1, h9', h10', e_h11, h12']
              refine J.jmp (t := wk .u64 (x7 + 1)) hj3 ?_ ?_
              · first | rfl | (simp only [LN, NN, NT])
              · first | (simp (disch := first | assumption | decide | with_unfolding_all rfl | omega | (simp only [LN] <;> omega) | (simp only [RO, OF])) only [RR, ↓reduceIte, Nat.reduceEqDiff, Nat.reduceLT, Nat.reduceLeDiff, Nat.reduceAdd, Nat.reduceSub, Nat.reduceMul, Nat.reduceMod, Nat.reduceDiv, Nat.reduceBEq, LN, NN, NT]; done) | (simp (disch := first | assumption | decide | with_unfolding_all rfl | omega | (simp only [LN] <;> omega) | (simp only [RO, OF])) only [RR, ↓reduceIte, Nat.reduceEqDiff, Nat.reduceLT, Nat.reduceLeDiff, Nat.reduceAdd, Nat.reduceSub, Nat.reduceMul, Nat.reduceMod, Nat.reduceDiv, Nat.reduceBEq, LN, fm_app, NN, NT]; done) | rfl
            · have h12' : x16 = false := Bool.eq_false_iff.2 h12
              conv => arg 1; simp (maxSteps := 1000000) (disch := first | assumption | decide | with_unfolding_all rfl | omega | (simp only [LN] <;> omega) | (simp only [RO, OF])) only [RR, RM, LN, TT, d70_at, ↓reduceIte, Nat.reduceEqDiff, Nat.reduceLT, Nat.reduceLeDiff, Nat.reduceAdd, Nat.reduceSub, Nat.reduceMul, Nat.reduceMod, Nat.reduceDiv, Nat.reduceBEq, RH, e_h1, h9', h10', e_h11, h12']
              refine J.jmp (t := x7) hj3 ?_ ?_
              · first | rfl | (simp only [LN, NN, NT])
              · first | (simp (disch := first | assumption | decide | with_unfolding_all rfl | omega | (simp only [LN] <;> omega) | (simp only [RO, OF])) only [RR, ↓reduceIte, Nat.reduceEqDiff, Nat.reduceLT, Nat.reduceLeDiff, Nat.reduceAdd, Nat.reduceSub, Nat.reduceMul, Nat.reduceMod, Nat.reduceDiv, Nat.reduceBEq, LN, NN, NT]; done) | (simp (disch := first | assumption | decide | with_unfolding_all rfl | omega | (simp only [LN] <;> omega) | (simp only [RO, OF])) only [RR, ↓reduceIte, Nat.reduceEqDiff, Nat.reduceLT, Nat.reduceLeDiff, Nat.reduceAdd, Nat.reduceSub, Nat.reduceMul, Nat.reduceMod, Nat.reduceDiv, Nat.reduceBEq, LN, fm_app, NN, NT]; done) | rfl
          · have h10' : x10 = false := Bool.eq_false_iff.2 h10
            conv => arg 1; simp (maxSteps := 1000000) (disch := first | assumption | decide | with_unfolding_all rfl | omega | (simp only [LN] <;> omega) | (simp only [RO, OF])) only [RR, RM, LN, TT, d70_at, ↓reduceIte, Nat.reduceEqDiff, Nat.reduceLT, Nat.reduceLeDiff, Nat.reduceAdd, Nat.reduceSub, Nat.reduceMul, Nat.reduceMod, Nat.reduceDiv, Nat.reduceBEq, RH, e_h1, h9', h10']
            refine J.eq ret_seq ?_
            conv => arg 1; simp (maxSteps := 1000000) (disch := first | assumption | decide | with_unfolding_all rfl | omega | (simp only [LN] <;> omega) | (simp only [RO, OF])) only [RR, RM, LN, TT, d70_at, ↓reduceIte, Nat.reduceEqDiff, Nat.reduceLT, Nat.reduceLeDiff, Nat.reduceAdd, Nat.reduceSub, Nat.reduceMul, Nat.reduceMod, Nat.reduceDiv, Nat.reduceBEq, RH, e_h1, h9', h10']
            refine J.jmp (t := x7) hj3 ?_ ?_
            · first | rfl | (simp only [LN, NN, NT])
            · first | (simp (disch := first | assumption | decide | with_unfolding_all rfl | omega | (simp only [LN] <;> omega) | (simp only [RO, OF])) only [RR, ↓reduceIte, Nat.reduceEqDiff, Nat.reduceLT, Nat.reduceLeDiff, Nat.reduceAdd, Nat.reduceSub, Nat.reduceMul, Nat.reduceMod, Nat.reduceDiv, Nat.reduceBEq, LN, NN, NT]; done) | (simp (disch := first | assumption | decide | with_unfolding_all rfl | omega | (simp only [LN] <;> omega) | (simp only [RO, OF])) only [RR, ↓reduceIte, Nat.reduceEqDiff, Nat.reduceLT, Nat.reduceLeDiff, Nat.reduceAdd, Nat.reduceSub, Nat.reduceMul, Nat.reduceMod, Nat.reduceDiv, Nat.reduceBEq, LN, fm_app, NN, NT]; done) | rfl
        · have h9' := decide_eq_false h9
          conv => arg 1; simp (maxSteps := 1000000) (disch := first | assumption | decide | with_unfolding_all rfl | omega | (simp only [LN] <;> omega) | (simp only [RO, OF])) only [RR, RM, LN, TT, d70_at, ↓reduceIte, Nat.reduceEqDiff, Nat.reduceLT, Nat.reduceLeDiff, Nat.reduceAdd, Nat.reduceSub, Nat.reduceMul, Nat.reduceMod, Nat.reduceDiv, Nat.reduceBEq, RH, e_h1, h9']
          refine J.eq ret_seq ?_
          conv => arg 1; simp (maxSteps := 1000000) (disch := first | assumption | decide | with_unfolding_all rfl | omega | (simp only [LN] <;> omega) | (simp only [RO, OF])) only [RR, RM, LN, TT, d70_at, ↓reduceIte, Nat.reduceEqDiff, Nat.reduceLT, Nat.reduceLeDiff, Nat.reduceAdd, Nat.reduceSub, Nat.reduceMul, Nat.reduceMod, Nat.reduceDiv, Nat.reduceBEq, RH, e_h1, h9']
          refine J.ite (fun h13 => ?_) (fun h13 => ?_)
          · have h13' := decide_eq_true h13
            conv => arg 1; simp (maxSteps := 1000000) (disch := first | assumption | decide | with_unfolding_all rfl | omega | (simp only [LN] <;> omega) | (simp only [RO, OF])) only [RR, RM, LN, TT, d70_at, ↓reduceIte, Nat.reduceEqDiff, Nat.reduceLT, Nat.reduceLeDiff, Nat.reduceAdd, Nat.reduceSub, Nat.reduceMul, Nat.reduceMod, Nat.reduceDiv, Nat.reduceBEq, RH, e_h1, h9', h13']
            refine J.eq go_seq ?_
            conv => arg 1; simp (maxSteps := 1000000) (disch := first | assumption | decide | with_unfolding_all rfl | omega | (simp only [LN] <;> omega) | (simp only [RO, OF])) only [RR, RM, LN, TT, d70_at, ↓reduceIte, Nat.reduceEqDiff, Nat.reduceLT, Nat.reduceLeDiff, Nat.reduceAdd, Nat.reduceSub, Nat.reduceMul, Nat.reduceMod, Nat.reduceDiv, Nat.reduceBEq, RH, e_h1, h9', h13']
            refine J.ite (fun h14 => ?_) (fun h14 => ?_)
            · have h14' : x10 = true := h14
              refine J.bind fun x17 h15 => ?_
              have e_h15 := H134_0 _ _ _ h15
              try simp only [NN, NT, LN] at e_h15
              conv => arg 1; simp (maxSteps := 1000000) (disch := first | assumption | decide | with_unfolding_all rfl | omega | (simp only [LN] <;> omega) | (simp only [RO, OF])) only [RR, RM, LN, TT, d70_at, ↓reduceIte, Nat.reduceEqDiff, Nat.reduceLT, Nat.reduceLeDiff, Nat.reduceAdd, Nat.reduceSub, Nat.reduceMul, Nat.reduceMod, Nat.reduceDiv, Nat.reduceBEq, RH, e_h1, h9', h13', h14', e_h15]
              refine J.eq ret_seq ?_
              conv => arg 1; simp (maxSteps := 1000000) (disch := first | assumption | decide | with_unfolding_all rfl | omega | (simp only [LN] <;> omega) | (simp only [RO, OF])) only [RR, RM, LN, TT, d70_at, ↓reduceIte, Nat.reduceEqDiff, Nat.reduceLT, Nat.reduceLeDiff, Nat.reduceAdd, Nat.reduceSub, Nat.reduceMul, Nat.reduceMod, Nat.reduceDiv, Nat.reduceBEq, RH, e_h1, h9', h13', h14', e_h15]
              refine J.ite (fun h16 => ?_) (fun h16 => ?_)
              · have h16' : x17 = true := h16
                conv => arg 1; simp (maxSteps := 1000000) (disch := first | assumption | decide | with_unfolding_all rfl | omega | (simp only [LN] <;> omega) | (simp only [RO, OF])) only [RR, RM, LN, TT, d70_at, ↓reduceIte, Nat.reduceEqDiff, Nat.reduceLT, Nat.reduceLeDiff, Nat.reduceAdd, Nat.reduceSub, Nat.reduceMul, Nat.reduceMod, Nat.reduceDiv, Nat.reduceBEq, RH, e_h1, h9', h13', h14', e_h15, h16']
                refine J.jmp (t := wk .u64 (x7 + 1)) hj3 ?_ ?_
                · first | rfl | (simp only [LN, NN, NT])
                · first | (simp (disch := first | assumption | decide | with_unfolding_all rfl | omega | (simp only [LN] <;> omega) | (simp only [RO, OF])) only [RR, ↓reduceIte, Nat.reduceEqDiff, Nat.reduceLT, Nat.reduceLeDiff, Nat.reduceAdd, Nat.reduceSub, Nat.reduceMul, Nat.reduceMod, Nat.reduceDiv, Nat.reduceBEq, LN, NN, NT]; done) | (simp (disch := first | assumption | decide | with_unfolding_all rfl | omega | (simp only [LN] <;> omega) | (simp only [RO, OF])) only [RR, ↓reduceIte, Nat.reduceEqDiff, Nat.reduceLT, Nat.reduceLeDiff, Nat.reduceAdd, Nat.reduceSub, Nat.reduceMul, Nat.reduceMod, Nat.reduceDiv, Nat.reduceBEq, LN, fm_app, NN, NT]; done) | rfl
              · have h16' : x17 = false := Bool.eq_false_iff.2 h16
                conv => arg 1; simp (maxSteps := 1000000) (disch := first | assumption | decide | with_unfolding_all rfl | omega | (simp only [LN] <;> omega) | (simp only [RO, OF])) only [RR, RM, LN, TT, d70_at, ↓reduceIte, Nat.reduceEqDiff, Nat.reduceLT, Nat.reduceLeDiff, Nat.reduceAdd, Nat.reduceSub, Nat.reduceMul, Nat.reduceMod, Nat.reduceDiv, Nat.reduceBEq, RH, e_h1, h9', h13', h14', e_h15, h16']
                refine J.jmp (t := x7) hj3 ?_ ?_
                · first | rfl | (simp only [LN, NN, NT])
                · first | (simp (disch := first | assumption | decide | with_unfolding_all rfl | omega | (simp only [LN] <;> omega) | (simp only [RO, OF])) only [RR, ↓reduceIte, Nat.reduceEqDiff, Nat.reduceLT, Nat.reduceLeDiff, Nat.reduceAdd, Nat.reduceSub, Nat.reduceMul, Nat.reduceMod, Nat.reduceDiv, Nat.reduceBEq, LN, NN, NT]; done) | (simp (disch := first | assumption | decide | with_unfolding_all rfl | omega | (simp only [LN] <;> omega) | (simp only [RO, OF])) only [RR, ↓reduceIte, Nat.reduceEqDiff, Nat.reduceLT, Nat.reduceLeDiff, Nat.reduceAdd, Nat.reduceSub, Nat.reduceMul, Nat.reduceMod, Nat.reduceDiv, Nat.reduceBEq, LN, fm_app, NN, NT]; done) | rfl
            · have h14' : x10 = false := Bool.eq_false_iff.2 h14
              conv => arg 1; simp (maxSteps := 1000000) (disch := first | assumption | decide | with_unfolding_all rfl | omega | (simp only [LN] <;> omega) | (simp only [RO, OF])) only [RR, RM, LN, TT, d70_at, ↓reduceIte, Nat.reduceEqDiff, Nat.reduceLT, Nat.reduceLeDiff, Nat.reduceAdd, Nat.reduceSub, Nat.reduceMul, Nat.reduceMod, Nat.reduceDiv, Nat.reduceBEq, RH, e_h1, h9', h13', h14']
              refine J.eq ret_seq ?_
              conv => arg 1; simp (maxSteps := 1000000) (disch := first | assumption | decide | with_unfolding_all rfl | omega | (simp only [LN] <;> omega) | (simp only [RO, OF])) only [RR, RM, LN, TT, d70_at, ↓reduceIte, Nat.reduceEqDiff, Nat.reduceLT, Nat.reduceLeDiff, Nat.reduceAdd, Nat.reduceSub, Nat.reduceMul, Nat.reduceMod, Nat.reduceDiv, Nat.reduceBEq, RH, e_h1, h9', h13', h14']
              refine J.jmp (t := x7) hj3 ?_ ?_
              · first | rfl | (simp only [LN, NN, NT])
              · first | (simp (disch := first | assumption | decide | with_unfolding_all rfl | omega | (simp only [LN] <;> omega) | (simp only [RO, OF])) only [RR, ↓reduceIte, Nat.reduceEqDiff, Nat.reduceLT, Nat.reduceLeDiff, Nat.reduceAdd, Nat.reduceSub, Nat.reduceMul, Nat.reduceMod, Nat.reduceDiv, Nat.reduceBEq, LN, NN, NT]; done) | (simp (disch := first | assumption | decide | with_unfolding_all rfl | omega | (simp only [LN] <;> omega) | (simp only [RO, OF])) only [RR, ↓reduceIte, Nat.reduceEqDiff, Nat.reduceLT, Nat.reduceLeDiff, Nat.reduceAdd, Nat.reduceSub, Nat.reduceMul, Nat.reduceMod, Nat.reduceDiv, Nat.reduceBEq, LN, fm_app, NN, NT]; done) | rfl
          · have h13' := decide_eq_false h13
            conv => arg 1; simp (maxSteps := 1000000) (disch := first | assumption | decide | with_unfolding_all rfl | omega | (simp only [LN] <;> omega) | (simp only [RO, OF])) only [RR, RM, LN, TT, d70_at, ↓reduceIte, Nat.reduceEqDiff, Nat.reduceLT, Nat.reduceLeDiff, Nat.reduceAdd, Nat.reduceSub, Nat.reduceMul, Nat.reduceMod, Nat.reduceDiv, Nat.reduceBEq, RH, e_h1, h9', h13']
            refine J.eq go_seq ?_
            conv => arg 1; simp (maxSteps := 1000000) (disch := first | assumption | decide | with_unfolding_all rfl | omega | (simp only [LN] <;> omega) | (simp only [RO, OF])) only [RR, RM, LN, TT, d70_at, ↓reduceIte, Nat.reduceEqDiff, Nat.reduceLT, Nat.reduceLeDiff, Nat.reduceAdd, Nat.reduceSub, Nat.reduceMul, Nat.reduceMod, Nat.reduceDiv, Nat.reduceBEq, RH, e_h1, h9', h13']
            refine J.ite (fun h17 => ?_) (fun h17 => ?_)
            · have h17' : x8 = true := h17
              conv => arg 1; simp (maxSteps := 1000000) (disch := first | assumption | decide | with_unfolding_all rfl | omega | (simp only [LN] <;> omega) | (simp only [RO, OF])) only [RR, RM, LN, TT, d70_at, ↓reduceIte, Nat.reduceEqDiff, Nat.reduceLT, Nat.reduceLeDiff, Nat.reduceAdd, Nat.reduceSub, Nat.reduceMul, Nat.reduceMod, Nat.reduceDiv, Nat.reduceBEq, RH, e_h1, h9', h13', h17']
              refine J.eq ret_seq ?_
              conv => arg 1; simp (maxSteps := 1000000) (disch := first | assumption | decide | with_unfolding_all rfl | omega | (simp only [LN] <;> omega) | (simp only [RO, OF])) only [RR, RM, LN, TT, d70_at, ↓reduceIte, Nat.reduceEqDiff, Nat.reduceLT, Nat.reduceLeDiff, Nat.reduceAdd, Nat.reduceSub, Nat.reduceMul, Nat.reduceMod, Nat.reduceDiv, Nat.reduceBEq, RH, e_h1, h9', h13', h17']
              refine J.jmp (t := wk .u64 (x7 + 1)) hj3 ?_ ?_
              · first | rfl | (simp only [LN, NN, NT])
              · first | (simp (disch := first | assumption | decide | with_unfolding_all rfl | omega | (simp only [LN] <;> omega) | (simp only [RO, OF])) only [RR, ↓reduceIte, Nat.reduceEqDiff, Nat.reduceLT, Nat.reduceLeDiff, Nat.reduceAdd, Nat.reduceSub, Nat.reduceMul, Nat.reduceMod, Nat.reduceDiv, Nat.reduceBEq, LN, NN, NT]; done) | (simp (disch := first | assumption | decide | with_unfolding_all rfl | omega | (simp only [LN] <;> omega) | (simp only [RO, OF])) only [RR, ↓reduceIte, Nat.reduceEqDiff, Nat.reduceLT, Nat.reduceLeDiff, Nat.reduceAdd, Nat.reduceSub, Nat.reduceMul, Nat.reduceMod, Nat.reduceDiv, Nat.reduceBEq, LN, fm_app, NN, NT]; done) | rfl
            · have h17' : x8 = false := Bool.eq_false_iff.2 h17
              conv => arg 1; simp (maxSteps := 1000000) (disch := first | assumption | decide | with_unfolding_all rfl | omega | (simp only [LN] <;> omega) | (simp only [RO, OF])) only [RR, RM, LN, TT, d70_at, ↓reduceIte, Nat.reduceEqDiff, Nat.reduceLT, Nat.reduceLeDiff, Nat.reduceAdd, Nat.reduceSub, Nat.reduceMul, Nat.reduceMod, Nat.reduceDiv, Nat.reduceBEq, RH, e_h1, h9', h13', h17']
              refine J.ite (fun h18 => ?_) (fun h18 => ?_)
              · have h18' : x9 = true := h18
                conv => arg 1; simp (maxSteps := 1000000) (disch := first | assumption | decide | with_unfolding_all rfl | omega | (simp only [LN] <;> omega) | (simp only [RO, OF])) only [RR, RM, LN, TT, d70_at, ↓reduceIte, Nat.reduceEqDiff, Nat.reduceLT, Nat.reduceLeDiff, Nat.reduceAdd, Nat.reduceSub, Nat.reduceMul, Nat.reduceMod, Nat.reduceDiv, Nat.reduceBEq, RH, e_h1, h9', h13', h17', h18']
                refine J.eq ret_seq ?_
                conv => arg 1; simp (maxSteps := 1000000) (disch := first | assumption | decide | with_unfolding_all rfl | omega | (simp only [LN] <;> omega) | (simp only [RO, OF])) only [RR, RM, LN, TT, d70_at, ↓reduceIte, Nat.reduceEqDiff, Nat.reduceLT, Nat.reduceLeDiff, Nat.reduceAdd, Nat.reduceSub, Nat.reduceMul, Nat.reduceMod, Nat.reduceDiv, Nat.reduceBEq, RH, e_h1, h9', h13', h17', h18']
                refine J.ite (fun h19 => ?_) (fun h19 => ?_)
                · have h19' := decide_eq_true h19
                  conv => arg 1; simp (maxSteps := 1000000) (disch := first | assumption | decide | with_unfolding_all rfl | omega | (simp only [LN] <;> omega) | (simp only [RO, OF])) only [RR, RM, LN, TT, d70_at, ↓reduceIte, Nat.reduceEqDiff, Nat.reduceLT, Nat.reduceLeDiff, Nat.reduceAdd, Nat.reduceSub, Nat.reduceMul, Nat.reduceMod, Nat.reduceDiv, Nat.reduceBEq, RH, e_h1, h9', h13', h17', h18', h19']
                  refine J.jmp (t := wk .u64 (x7 + 1)) hj3 ?_ ?_
                  · first | rfl | (simp only [LN, NN, NT])
                  · first | (simp (disch := first | assumption | decide | with_unfolding_all rfl | omega | (simp only [LN] <;> omega) | (simp only [RO, OF])) only [RR, ↓reduceIte, Nat.reduceEqDiff, Nat.reduceLT, Nat.reduceLeDiff, Nat.reduceAdd, Nat.reduceSub, Nat.reduceMul, Nat.reduceMod, Nat.reduceDiv, Nat.reduceBEq, LN, NN, NT]; done) | (simp (disch := first | assumption | decide | with_unfolding_all rfl | omega | (simp only [LN] <;> omega) | (simp only [RO, OF])) only [RR, ↓reduceIte, Nat.reduceEqDiff, Nat.reduceLT, Nat.reduceLeDiff, Nat.reduceAdd, Nat.reduceSub, Nat.reduceMul, Nat.reduceMod, Nat.reduceDiv, Nat.reduceBEq, LN, fm_app, NN, NT]; done) | rfl
                · have h19' := decide_eq_false h19
                  conv => arg 1; simp (maxSteps := 1000000) (disch := first | assumption | decide | with_unfolding_all rfl | omega | (simp only [LN] <;> omega) | (simp only [RO, OF])) only [RR, RM, LN, TT, d70_at, ↓reduceIte, Nat.reduceEqDiff, Nat.reduceLT, Nat.reduceLeDiff, Nat.reduceAdd, Nat.reduceSub, Nat.reduceMul, Nat.reduceMod, Nat.reduceDiv, Nat.reduceBEq, RH, e_h1, h9', h13', h17', h18', h19']
                  refine J.jmp (t := x7) hj3 ?_ ?_
                  · first | rfl | (simp only [LN, NN, NT])
                  · first | (simp (disch := first | assumption | decide | with_unfolding_all rfl | omega | (simp only [LN] <;> omega) | (simp only [RO, OF])) only [RR, ↓reduceIte, Nat.reduceEqDiff, Nat.reduceLT, Nat.reduceLeDiff, Nat.reduceAdd, Nat.reduceSub, Nat.reduceMul, Nat.reduceMod, Nat.reduceDiv, Nat.reduceBEq, LN, NN, NT]; done) | (simp (disch := first | assumption | decide | with_unfolding_all rfl | omega | (simp only [LN] <;> omega) | (simp only [RO, OF])) only [RR, ↓reduceIte, Nat.reduceEqDiff, Nat.reduceLT, Nat.reduceLeDiff, Nat.reduceAdd, Nat.reduceSub, Nat.reduceMul, Nat.reduceMod, Nat.reduceDiv, Nat.reduceBEq, LN, fm_app, NN, NT]; done) | rfl
              · have h18' : x9 = false := Bool.eq_false_iff.2 h18
                conv => arg 1; simp (maxSteps := 1000000) (disch := first | assumption | decide | with_unfolding_all rfl | omega | (simp only [LN] <;> omega) | (simp only [RO, OF])) only [RR, RM, LN, TT, d70_at, ↓reduceIte, Nat.reduceEqDiff, Nat.reduceLT, Nat.reduceLeDiff, Nat.reduceAdd, Nat.reduceSub, Nat.reduceMul, Nat.reduceMod, Nat.reduceDiv, Nat.reduceBEq, RH, e_h1, h9', h13', h17', h18']
                refine J.eq ret_seq ?_
                conv => arg 1; simp (maxSteps := 1000000) (disch := first | assumption | decide | with_unfolding_all rfl | omega | (simp only [LN] <;> omega) | (simp only [RO, OF])) only [RR, RM, LN, TT, d70_at, ↓reduceIte, Nat.reduceEqDiff, Nat.reduceLT, Nat.reduceLeDiff, Nat.reduceAdd, Nat.reduceSub, Nat.reduceMul, Nat.reduceMod, Nat.reduceDiv, Nat.reduceBEq, RH, e_h1, h9', h13', h17', h18']
                refine J.jmp (t := x7) hj3 ?_ ?_
                · first | rfl | (simp only [LN, NN, NT])
                · first | (simp (disch := first | assumption | decide | with_unfolding_all rfl | omega | (simp only [LN] <;> omega) | (simp only [RO, OF])) only [RR, ↓reduceIte, Nat.reduceEqDiff, Nat.reduceLT, Nat.reduceLeDiff, Nat.reduceAdd, Nat.reduceSub, Nat.reduceMul, Nat.reduceMod, Nat.reduceDiv, Nat.reduceBEq, LN, NN, NT]; done) | (simp (disch := first | assumption | decide | with_unfolding_all rfl | omega | (simp only [LN] <;> omega) | (simp only [RO, OF])) only [RR, ↓reduceIte, Nat.reduceEqDiff, Nat.reduceLT, Nat.reduceLeDiff, Nat.reduceAdd, Nat.reduceSub, Nat.reduceMul, Nat.reduceMod, Nat.reduceDiv, Nat.reduceBEq, LN, fm_app, NN, NT]; done) | rfl
    · conv => arg 1; simp (maxSteps := 1000000) (disch := first | assumption | decide | with_unfolding_all rfl | omega | (simp only [LN] <;> omega) | (simp only [RO, OF])) only [RR, RM, LN, TT, d70_at, ↓reduceIte, Nat.reduceEqDiff, Nat.reduceLT, Nat.reduceLeDiff, Nat.reduceAdd, Nat.reduceSub, Nat.reduceMul, Nat.reduceMod, Nat.reduceDiv, Nat.reduceBEq, RH, e_h1]
      refine J.ite (fun h20 => ?_) (fun h20 => ?_)
      · have h20' := decide_eq_true h20
        have h20'' : decide (0 < (imax (wk .i64 (x6 - 24)) (wk .i64 ((-149) - x3)))) = false := decide_eq_false (by omega)
        refine J.chk fun h21 => ?_
        conv => arg 1; simp (maxSteps := 1000000) (disch := first | assumption | decide | with_unfolding_all rfl | omega | (simp only [LN] <;> omega) | (simp only [RO, OF])) only [RR, RM, LN, TT, d70_at, ↓reduceIte, Nat.reduceEqDiff, Nat.reduceLT, Nat.reduceLeDiff, Nat.reduceAdd, Nat.reduceSub, Nat.reduceMul, Nat.reduceMod, Nat.reduceDiv, Nat.reduceBEq, RH, e_h1, h20'', h20']
        refine J.jmp (t := (shlk .u64 x4 (wk .i64 (0 - (imax (wk .i64 (x6 - 24)) (wk .i64 ((-149) - x3))))), false, false, x5)) hj2 ?_ ?_
        · first | rfl | (simp only [LN, NN, NT])
        · first | (simp (disch := first | assumption | decide | with_unfolding_all rfl | omega | (simp only [LN] <;> omega) | (simp only [RO, OF])) only [RR, ↓reduceIte, Nat.reduceEqDiff, Nat.reduceLT, Nat.reduceLeDiff, Nat.reduceAdd, Nat.reduceSub, Nat.reduceMul, Nat.reduceMod, Nat.reduceDiv, Nat.reduceBEq, LN, NN, NT]; done) | (simp (disch := first | assumption | decide | with_unfolding_all rfl | omega | (simp only [LN] <;> omega) | (simp only [RO, OF])) only [RR, ↓reduceIte, Nat.reduceEqDiff, Nat.reduceLT, Nat.reduceLeDiff, Nat.reduceAdd, Nat.reduceSub, Nat.reduceMul, Nat.reduceMod, Nat.reduceDiv, Nat.reduceBEq, LN, fm_app, NN, NT]; done) | rfl
      · have h20' := decide_eq_false h20
        have h20'' : decide (0 < (imax (wk .i64 (x6 - 24)) (wk .i64 ((-149) - x3)))) = true := decide_eq_true (by omega)
        conv => arg 1; simp (maxSteps := 1000000) (disch := first | assumption | decide | with_unfolding_all rfl | omega | (simp only [LN] <;> omega) | (simp only [RO, OF])) only [RR, RM, LN, TT, d70_at, ↓reduceIte, Nat.reduceEqDiff, Nat.reduceLT, Nat.reduceLeDiff, Nat.reduceAdd, Nat.reduceSub, Nat.reduceMul, Nat.reduceMod, Nat.reduceDiv, Nat.reduceBEq, RH, e_h1, h20'', h20']
        refine J.ite (fun h22 => ?_) (fun h22 => ?_)
        · have h22' := decide_eq_true h22
          have h22'' : decide ((imax (wk .i64 (x6 - 24)) (wk .i64 ((-149) - x3))) ≤ x6) = false := decide_eq_false (by omega)
          conv => arg 1; simp (maxSteps := 1000000) (disch := first | assumption | decide | with_unfolding_all rfl | omega | (simp only [LN] <;> omega) | (simp only [RO, OF])) only [RR, RM, LN, TT, d70_at, ↓reduceIte, Nat.reduceEqDiff, Nat.reduceLT, Nat.reduceLeDiff, Nat.reduceAdd, Nat.reduceSub, Nat.reduceMul, Nat.reduceMod, Nat.reduceDiv, Nat.reduceBEq, RH, e_h1, h20'', h20', h22'', h22']
          refine J.jmp (t := (0, false, false, true)) hj2 ?_ ?_
          · first | rfl | (simp only [LN, NN, NT])
          · first | (simp (disch := first | assumption | decide | with_unfolding_all rfl | omega | (simp only [LN] <;> omega) | (simp only [RO, OF])) only [RR, ↓reduceIte, Nat.reduceEqDiff, Nat.reduceLT, Nat.reduceLeDiff, Nat.reduceAdd, Nat.reduceSub, Nat.reduceMul, Nat.reduceMod, Nat.reduceDiv, Nat.reduceBEq, LN, NN, NT]; done) | (simp (disch := first | assumption | decide | with_unfolding_all rfl | omega | (simp only [LN] <;> omega) | (simp only [RO, OF])) only [RR, ↓reduceIte, Nat.reduceEqDiff, Nat.reduceLT, Nat.reduceLeDiff, Nat.reduceAdd, Nat.reduceSub, Nat.reduceMul, Nat.reduceMod, Nat.reduceDiv, Nat.reduceBEq, LN, fm_app, NN, NT]; done) | rfl
        · have h22' := decide_eq_false h22
          have h22'' : decide ((imax (wk .i64 (x6 - 24)) (wk .i64 ((-149) - x3))) ≤ x6) = true := decide_eq_true (by omega)
          refine J.chk fun h23 => ?_
          refine J.chk fun h24 => ?_
          conv => arg 1; simp (maxSteps := 1000000) (disch := first | assumption | decide | with_unfolding_all rfl | omega | (simp only [LN] <;> omega) | (simp only [RO, OF])) only [RR, RM, LN, TT, d70_at, ↓reduceIte, Nat.reduceEqDiff, Nat.reduceLT, Nat.reduceLeDiff, Nat.reduceAdd, Nat.reduceSub, Nat.reduceMul, Nat.reduceMod, Nat.reduceDiv, Nat.reduceBEq, RH, e_h1, h20'', h20', h22'', h22']
          refine J.joinS (fun (t : Bool) => ([(0, .v (.int .i64 x1)), (1, .v (.bool x2)), (2, .v (.int .i64 x3)), (3, .v (.int .u64 x4)), (4, .v (.bool x5)), (11, .v (.int .i64 x6)), (12, .v (.int .i64 (imax (wk .i64 (x6 - 24)) (wk .i64 ((-149) - x3))))), (13, .v (.int .u64 (shrk .u64 x4 (imax (wk .i64 (x6 - 24)) (wk .i64 ((-149) - x3)))))), (14, .v (.bool t)), (15, .v (.bool false)), (16, .v (.bool x5)), (17, .v (.int .u64 (band .u64 x4 (wk .u64 ((shlk .u64 1 (imax (wk .i64 (x6 - 24)) (wk .i64 ((-149) - x3)))) - 1))))), (18, .v (.int .u64 (shlk .u64 1 (wk .i64 ((imax (wk .i64 (x6 - 24)) (wk .i64 ((-149) - x3))) - 1)))))], [])) (fun t => soft_Round_k4 fu x1 x2 x3 x4 x5 x6 t) ?_ (fun hj4 => ?_)
          · rintro x18
            show J _ (soft_Round_k4 fu x1 x2 x3 x4 x5 x6 x18) _
            unfold soft_Round_k4
            refine J.eq go_seq ?_
            conv => arg 1; simp (maxSteps := 1000000) (disch := first | assumption | decide | with_unfolding_all rfl | omega | (simp only [LN] <;> omega) | (simp only [RO, OF])) only [RR, RM, LN, TT, d70_at, ↓reduceIte, Nat.reduceEqDiff, Nat.reduceLT, Nat.reduceLeDiff, Nat.reduceAdd, Nat.reduceSub, Nat.reduceMul, Nat.reduceMod, Nat.reduceDiv, Nat.reduceBEq, RH, e_h1, h20'', h20', h22'', h22']
            refine J.ite (fun h25 => ?_) (fun h25 => ?_)
            · have h25' := decide_eq_true h25
              conv => arg 1; simp (maxSteps := 1000000) (disch := first | assumption | decide | with_unfolding_all rfl | omega | (simp only [LN] <;> omega) | (simp only [RO, OF])) only [RR, RM, LN, TT, d70_at, ↓reduceIte, Nat.reduceEqDiff, Nat.reduceLT, Nat.reduceLeDiff, Nat.reduceAdd, Nat.reduceSub, Nat.reduceMul, Nat.reduceMod, Nat.reduceDiv, Nat.reduceBEq, RH, e_h1, h20'', h20', h22'', h22', h25']
              refine J.eq ret_seq ?_
              conv => arg 1; simp (maxSteps := 1000000) (disch := first | assumption | decide | with_unfolding_all rfl | omega | (simp only [LN] <;> omega) | (simp only [RO, OF])) only [RR, RM, LN, TT, d70_at, ↓reduceIte, Nat.reduceEqDiff, Nat.reduceLT, Nat.reduceLeDiff, Nat.reduceAdd, Nat.reduceSub, Nat.reduceMul, Nat.reduceMod, Nat.reduceDiv, Nat.reduceBEq, RH, e_h1, h20'', h20', h22'', h22', h25']
              refine J.ite (fun h26 => ?_) (fun h26 => ?_)
              · have h26' := decide_eq_true h26
                conv => arg 1; simp (maxSteps := 1000000) (disch := first | assumption | decide | with_unfolding_all rfl | omega | (simp only [LN] <;> omega) | (simp only [RO, OF])) only [RR, RM, LN, TT, d70_at, ↓reduceIte, Nat.reduceEqDiff, Nat.reduceLT, Nat.reduceLeDiff, Nat.reduceAdd, Nat.reduceSub, Nat.reduceMul, Nat.reduceMod, Nat.reduceDiv, Nat.reduceBEq, RH, e_h1, h20'', h20', h22'', h22', h25', h26']
                refine J.jmp (t := (shrk .u64 x4 (imax (wk .i64 (x6 - 24)) (wk .i64 ((-149) - x3))), x18, !x5, x5)) hj2 ?_ ?_
                · first | rfl | (simp only [LN, NN, NT])
                · first | (simp (disch := first | assumption | decide | with_unfolding_all rfl | omega | (simp only [LN] <;> omega) | (simp only [RO, OF])) only [RR, ↓reduceIte, Nat.reduceEqDiff, Nat.reduceLT, Nat.reduceLeDiff, Nat.reduceAdd, Nat.reduceSub, Nat.reduceMul, Nat.reduceMod, Nat.reduceDiv, Nat.reduceBEq, LN, NN, NT]; done) | (simp (disch := first | assumption | decide | with_unfolding_all rfl | omega | (simp only [LN] <;> omega) | (simp only [RO, OF])) only [RR, ↓reduceIte, Nat.reduceEqDiff, Nat.reduceLT, Nat.reduceLeDiff, Nat.reduceAdd, Nat.reduceSub, Nat.reduceMul, Nat.reduceMod, Nat.reduceDiv, Nat.reduceBEq, LN, fm_app, NN, NT]; done) | rfl
              · have h26' := decide_eq_false h26
                conv => arg 1; simp (maxSteps := 1000000) (disch := first | assumption | decide | with_unfolding_all rfl | omega | (simp only [LN] <;> omega) | (simp only [RO, OF])) only [RR, RM, LN, TT, d70_at, ↓reduceIte, Nat.reduceEqDiff, Nat.reduceLT, Nat.reduceLeDiff, Nat.reduceAdd, Nat.reduceSub, Nat.reduceMul, Nat.reduceMod, Nat.reduceDiv, Nat.reduceBEq, RH, e_h1, h20'', h20', h22'', h22', h25', h26']
                refine J.jmp (t := (shrk .u64 x4 (imax (wk .i64 (x6 - 24)) (wk .i64 ((-149) - x3))), x18, !x5, true)) hj2 ?_ ?_
                · first | rfl | (simp only [LN, NN, NT])
                · first | (simp (disch := first | assumption | decide | with_unfolding_all rfl | omega | (simp only [LN] <;> omega) | (simp only [RO, OF])) only [RR, ↓reduceIte, Nat.reduceEqDiff, Nat.reduceLT, Nat.reduceLeDiff, Nat.reduceAdd, Nat.reduceSub, Nat.reduceMul, Nat.reduceMod, Nat.reduceDiv, Nat.reduceBEq, LN, NN, NT]; done) | (simp (disch := first | assumption | decide | with_unfolding_all rfl | omega | (simp only [LN] <;> omega) | (simp only [RO, OF])) only [RR, ↓reduceIte, Nat.reduceEqDiff, Nat.reduceLT, Nat.reduceLeDiff, Nat.reduceAdd, Nat.reduceSub, Nat.reduceMul, Nat.reduceMod, Nat.reduceDiv, Nat.reduceBEq, LN, fm_app, NN, NT]; done) | rfl
            · have h25' := decide_eq_false h25
              conv => arg 1; simp (maxSteps := 1000000) (disch := first | assumption | decide | with_unfolding_all rfl | omega | (simp only [LN] <;> omega) | (simp only [RO, OF])) only [RR, RM, LN, TT, d70_at, ↓reduceIte, Nat.reduceEqDiff, Nat.reduceLT, Nat.reduceLeDiff, Nat.reduceAdd, Nat.reduceSub, Nat.reduceMul, Nat.reduceMod, Nat.reduceDiv, Nat.reduceBEq, RH, e_h1, h20'', h20', h22'', h22', h25']
              refine J.eq ret_seq ?_
              conv => arg 1; simp (maxSteps := 1000000) (disch := first | assumption | decide | with_unfolding_all rfl | omega | (simp only [LN] <;> omega) | (simp only [RO, OF])) only [RR, RM, LN, TT, d70_at, ↓reduceIte, Nat.reduceEqDiff, Nat.reduceLT, Nat.reduceLeDiff, Nat.reduceAdd, Nat.reduceSub, Nat.reduceMul, Nat.reduceMod, Nat.reduceDiv, Nat.reduceBEq, RH, e_h1, h20'', h20', h22'', h22', h25']
              refine J.ite (fun h27 => ?_) (fun h27 => ?_)
              · have h27' := decide_eq_true h27
                conv => arg 1; simp (maxSteps := 1000000) (disch := first | assumption | decide | with_unfolding_all rfl | omega | (simp only [LN] <;> omega) | (simp only [RO, OF])) only [RR, RM, LN, TT, d70_at, ↓reduceIte, Nat.reduceEqDiff, Nat.reduceLT, Nat.reduceLeDiff, Nat.reduceAdd, Nat.reduceSub, Nat.reduceMul, Nat.reduceMod, Nat.reduceDiv, Nat.reduceBEq, RH, e_h1, h20'', h20', h22'', h22', h25', h27']
                refine J.jmp (t := (shrk .u64 x4 (imax (wk .i64 (x6 - 24)) (wk .i64 ((-149) - x3))), x18, false, x5)) hj2 ?_ ?_
                · first | rfl | (simp only [LN, NN, NT])
                · first | (simp (disch := first | assumption | decide | with_unfolding_all rfl | omega | (simp only [LN] <;> omega) | (simp only [RO, OF])) only [RR, ↓reduceIte, Nat.reduceEqDiff, Nat.reduceLT, Nat.reduceLeDiff, Nat.reduceAdd, Nat.reduceSub, Nat.reduceMul, Nat.reduceMod, Nat.reduceDiv, Nat.reduceBEq, LN, NN, NT]; done) | (simp (disch := first | assumption | decide | with_unfolding_all rfl | omega | (simp only [LN] <;> omega) | (simp only [RO, OF])) only [RR, ↓reduceIte, Nat.reduceEqDiff, Nat.reduceLT, Nat.reduceLeDiff, Nat.reduceAdd, Nat.reduceSub, Nat.reduceMul, Nat.reduceMod, Nat.reduceDiv, Nat.reduceBEq, LN, fm_app, NN, NT]; done) | rfl
              · have h27' := decide_eq_false h27
                conv => arg 1; simp (maxSteps := 1000000) (disch := first | assumption | decide | with_unfolding_all rfl | omega | (simp only [LN] <;> omega) | (simp only [RO, OF])) only [RR, RM, LN, TT, d70_at, ↓reduceIte, Nat.reduceEqDiff, Nat.reduceLT, Nat.reduceLeDiff, Nat.reduceAdd, Nat.reduceSub, Nat.reduceMul, Nat.reduceMod, Nat.reduceDiv, Nat.reduceBEq, RH, e_h1, h20'', h20', h22'', h22', h25', h27']
                refine J.jmp (t := (shrk .u64 x4 (imax (wk .i64 (x6 - 24)) (wk .i64 ((-149) - x3))), x18, false, true)) hj2 ?_ ?_
                · first | rfl | (simp only [LN, NN, NT])
                · first | (simp (disch := first | assumption | decide | with_unfolding_all rfl | omega | (simp only [LN] <;> omega) | (simp only [RO, OF])) only [RR, ↓reduceIte, Nat.reduceEqDiff, Nat.reduceLT, Nat.reduceLeDiff, Nat.reduceAdd, Nat.reduceSub, Nat.reduceMul, Nat.reduceMod, Nat.reduceDiv, Nat.reduceBEq, LN, NN, NT]; done) | (simp (disch := first | assumption | decide | with_unfolding_all rfl | omega | (simp only [LN] <;> omega) | (simp only [RO, OF])) only [RR, ↓reduceIte, Nat.reduceEqDiff, Nat.reduceLT, Nat.reduceLeDiff, Nat.reduceAdd, Nat.reduceSub, Nat.reduceMul, Nat.reduceMod, Nat.reduceDiv, Nat.reduceBEq, LN, fm_app, NN, NT]; done) | rfl
          · conv => arg 1; simp (maxSteps := 1000000) (disch := first | assumption | decide | with_unfolding_all rfl | omega | (simp only [LN] <;> omega) | (simp only [RO, OF])) only [RR, RM, LN, TT, d70_at, ↓reduceIte, Nat.reduceEqDiff, Nat.reduceLT, Nat.reduceLeDiff, Nat.reduceAdd, Nat.reduceSub, Nat.reduceMul, Nat.reduceMod, Nat.reduceDiv, Nat.reduceBEq, RH, e_h1, h20'', h20', h22'', h22']
            refine J.ite (fun h28 => ?_) (fun h28 => ?_)
            · have h28' := decide_eq_true h28
              have h28'' : decide ((band .u64 x4 (wk .u64 ((shlk .u64 1 (imax (wk .i64 (x6 - 24)) (wk .i64 ((-149) - x3)))) - 1))) ≤ (shlk .u64 1 (wk .i64 ((imax (wk .i64 (x6 - 24)) (wk .i64 ((-149) - x3))) - 1)))) = false := decide_eq_false (by omega)
              conv => arg 1; simp (maxSteps := 1000000) (disch := first | assumption | decide | with_unfolding_all rfl | omega | (simp only [LN] <;> omega) | (simp only [RO, OF])) only [RR, RM, LN, TT, d70_at, ↓reduceIte, Nat.reduceEqDiff, Nat.reduceLT, Nat.reduceLeDiff, Nat.reduceAdd, Nat.reduceSub, Nat.reduceMul, Nat.reduceMod, Nat.reduceDiv, Nat.reduceBEq, RH, e_h1, h20'', h20', h22'', h22', h28'', h28']
              refine J.jmp (t := true) hj4 ?_ ?_
              · first | rfl | (simp only [LN, NN, NT])
              · first | (simp (disch := first | assumption | decide | with_unfolding_all rfl | omega | (simp only [LN] <;> omega) | (simp only [RO, OF])) only [RR, ↓reduceIte, Nat.reduceEqDiff, Nat.reduceLT, Nat.reduceLeDiff, Nat.reduceAdd, Nat.reduceSub, Nat.reduceMul, Nat.reduceMod, Nat.reduceDiv, Nat.reduceBEq, LN, NN, NT]; done) | (simp (disch := first | assumption | decide | with_unfolding_all rfl | omega | (simp only [LN] <;> omega) | (simp only [RO, OF])) only [RR, ↓reduceIte, Nat.reduceEqDiff, Nat.reduceLT, Nat.reduceLeDiff, Nat.reduceAdd, Nat.reduceSub, Nat.reduceMul, Nat.reduceMod, Nat.reduceDiv, Nat.reduceBEq, LN, fm_app, NN, NT]; done) | rfl
            · have h28' := decide_eq_false h28
              have h28'' : decide ((band .u64 x4 (wk .u64 ((shlk .u64 1 (imax (wk .i64 (x6 - 24)) (wk .i64 ((-149) - x3)))) - 1))) ≤ (shlk .u64 1 (wk .i64 ((imax (wk .i64 (x6 - 24)) (wk .i64 ((-149) - x3))) - 1)))) = true := decide_eq_true (by omega)
              conv => arg 1; simp (maxSteps := 1000000) (disch := first | assumption | decide | with_unfolding_all rfl | omega | (simp only [LN] <;> omega) | (simp only [RO, OF])) only [RR, RM, LN, TT, d70_at, ↓reduceIte, Nat.reduceEqDiff, Nat.reduceLT, Nat.reduceLeDiff, Nat.reduceAdd, Nat.reduceSub, Nat.reduceMul, Nat.reduceMod, Nat.reduceDiv, Nat.reduceBEq, RH, e_h1, h20'', h20', h22'', h22', h28'', h28']
              refine J.ite (fun h29 => ?_) (fun h29 => ?_)
              · have h29' := decide_eq_true h29
                conv => arg 1; simp (maxSteps := 1000000) (disch := first | assumption | decide | with_unfolding_all rfl | omega | (simp only [LN] <;> omega) | (simp only [RO, OF])) only [RR, RM, LN, TT, d70_at, ↓reduceIte, Nat.reduceEqDiff, Nat.reduceLT, Nat.reduceLeDiff, Nat.reduceAdd, Nat.reduceSub, Nat.reduceMul, Nat.reduceMod, Nat.reduceDiv, Nat.reduceBEq, RH, e_h1, h20'', h20', h22'', h22', h28'', h28', h29']
                refine J.jmp (t := x5) hj4 ?_ ?_
                · first | rfl | (simp only [LN, NN, NT])
                · first | (simp (disch := first | assumption | decide | with_unfolding_all rfl | omega | (simp only [LN] <;> omega) | (simp only [RO, OF])) only [RR, ↓reduceIte, Nat.reduceEqDiff, Nat.reduceLT, Nat.reduceLeDiff, Nat.reduceAdd, Nat.reduceSub, Nat.reduceMul, Nat.reduceMod, Nat.reduceDiv, Nat.reduceBEq, LN, NN, NT]; done) | (simp (disch := first | assumption | decide | with_unfolding_all rfl | omega | (simp only [LN] <;> omega) | (simp only [RO, OF])) only [RR, ↓reduceIte, Nat.reduceEqDiff, Nat.reduceLT, Nat.reduceLeDiff, Nat.reduceAdd, Nat.reduceSub, Nat.reduceMul, Nat.reduceMod, Nat.reduceDiv, Nat.reduceBEq, LN, fm_app, NN, NT]; done) | rfl
              · have h29' := decide_eq_false h29
                conv => arg 1; simp (maxSteps := 1000000) (disch := first | assumption | decide | with_unfolding_all rfl | omega | (simp only [LN] <;> omega) | (simp only [RO, OF])) only [RR, RM, LN, TT, d70_at, ↓reduceIte, Nat.reduceEqDiff, Nat.reduceLT, Nat.reduceLeDiff, Nat.reduceAdd, Nat.reduceSub, Nat.reduceMul, Nat.reduceMod, Nat.reduceDiv, Nat.reduceBEq, RH, e_h1, h20'', h20', h22'', h22', h28'', h28', h29']
                refine J.jmp (t := false) hj4 ?_ ?_
                · first | rfl | (simp only [LN, NN, NT])
                · first | (simp (disch := first | assumption | decide | with_unfolding_all rfl | omega | (simp only [LN] <;> omega) | (simp only [RO, OF])) only [RR, ↓reduceIte, Nat.reduceEqDiff, Nat.reduceLT, Nat.reduceLeDiff, Nat.reduceAdd, Nat.reduceSub, Nat.reduceMul, Nat.reduceMod, Nat.reduceDiv, Nat.reduceBEq, LN, NN, NT]; done) | (simp (disch := first | assumption | decide | with_unfolding_all rfl | omega | (simp only [LN] <;> omega) | (simp only [RO, OF])) only [RR, ↓reduceIte, Nat.reduceEqDiff, Nat.reduceLT, Nat.reduceLeDiff, Nat.reduceAdd, Nat.reduceSub, Nat.reduceMul, Nat.reduceMod, Nat.reduceDiv, Nat.reduceBEq, LN, fm_app, NN, NT]; done) | rfl
  · conv => arg 1; simp (maxSteps := 1000000) (disch := first | assumption | decide | with_unfolding_all rfl | omega | (simp only [LN] <;> omega) | (simp only [RO, OF])) only [RR, RM, LN, TT, d70_at, ↓reduceIte, Nat.reduceEqDiff, Nat.reduceLT, Nat.reduceLeDiff, Nat.reduceAdd, Nat.reduceSub, Nat.reduceMul, Nat.reduceMod, Nat.reduceDiv, Nat.reduceBEq, RH, e_h1]
    refine J.eq go_seq ?_
    conv => arg 1; simp (maxSteps := 1000000) (disch := first | assumption | decide | with_unfolding_all rfl | omega | (simp only [LN] <;> omega) | (simp only [RO, OF])) only [RR, RM, LN, TT, d70_at, ↓reduceIte, Nat.reduceEqDiff, Nat.reduceLT, Nat.reduceLeDiff, Nat.reduceAdd, Nat.reduceSub, Nat.reduceMul, Nat.reduceMod, Nat.reduceDiv, Nat.reduceBEq, RH, e_h1]
    refine J.ite (fun h30 => ?_) (fun h30 => ?_)
    · have h30' := decide_eq_true h30
      conv => arg 1; simp (maxSteps := 1000000) (disch := first | assumption | decide | with_unfolding_all rfl | omega | (simp only [LN] <;> omega) | (simp only [RO, OF])) only [RR, RM, LN, TT, d70_at, ↓reduceIte, Nat.reduceEqDiff, Nat.reduceLT, Nat.reduceLeDiff, Nat.reduceAdd, Nat.reduceSub, Nat.reduceMul, Nat.reduceMod, Nat.reduceDiv, Nat.reduceBEq, RH, e_h1, h30']
      refine J.eq ret_seq ?_
      conv => arg 1; simp (maxSteps := 1000000) (disch := first | assumption | decide | with_unfolding_all rfl | omega | (simp only [LN] <;> omega) | (simp only [RO, OF])) only [RR, RM, LN, TT, d70_at, ↓reduceIte, Nat.reduceEqDiff, Nat.reduceLT, Nat.reduceLeDiff, Nat.reduceAdd, Nat.reduceSub, Nat.reduceMul, Nat.reduceMod, Nat.reduceDiv, Nat.reduceBEq, RH, e_h1, h30']
      refine J.ite (fun h31 => ?_) (fun h31 => ?_)
      · have h31' : x5 = true := h31
        conv => arg 1; simp (maxSteps := 1000000) (disch := first | assumption | decide | with_unfolding_all rfl | omega | (simp only [LN] <;> omega) | (simp only [RO, OF])) only [RR, RM, LN, TT, d70_at, ↓reduceIte, Nat.reduceEqDiff, Nat.reduceLT, Nat.reduceLeDiff, Nat.reduceAdd, Nat.reduceSub, Nat.reduceMul, Nat.reduceMod, Nat.reduceDiv, Nat.reduceBEq, RH, e_h1, h30', h31']
        refine J.eq go_seq ?_
        conv => arg 1; simp (maxSteps := 1000000) (disch := first | assumption | decide | with_unfolding_all rfl | omega | (simp only [LN] <;> omega) | (simp only [RO, OF])) only [RR, RM, LN, TT, d70_at, ↓reduceIte, Nat.reduceEqDiff, Nat.reduceLT, Nat.reduceLeDiff, Nat.reduceAdd, Nat.reduceSub, Nat.reduceMul, Nat.reduceMod, Nat.reduceDiv, Nat.reduceBEq, RH, e_h1, h30', h31']
        refine J.eq ret_seq ?_
        refine J.bind fun x19 h32 => ?_
        have e_h32 := H132_0 _ _ _ h32
        try simp only [NN, NT, LN] at e_h32
        refine J.some ?_
        simp (maxSteps := 20000000) (disch := first | assumption | decide | with_unfolding_all rfl | omega | (simp only [LN] <;> omega) | (simp only [RO, OF])) only [RR, RM, LN, TT, d70_at, ↓reduceIte, Nat.reduceEqDiff, Nat.reduceLT, Nat.reduceLeDiff, Nat.reduceAdd, Nat.reduceSub, Nat.reduceMul, Nat.reduceMod, Nat.reduceDiv, Nat.reduceBEq, RH, e_h1, h30', h31', e_h32, FF, LN, NN, NT]
      · have h31' : x5 = false := Bool.eq_false_iff.2 h31
        refine J.bind fun x20 h33 => ?_
        have e_h33 := H71_0 _ _ h33
        try simp only [NN, NT, LN] at e_h33
        refine J.some ?_
        simp (maxSteps := 20000000) (disch := first | assumption | decide | with_unfolding_all rfl | omega | (simp only [LN] <;> omega) | (simp only [RO, OF])) only [RR, RM, LN, TT, d70_at, ↓reduceIte, Nat.reduceEqDiff, Nat.reduceLT, Nat.reduceLeDiff, Nat.reduceAdd, Nat.reduceSub, Nat.reduceMul, Nat.reduceMod, Nat.reduceDiv, Nat.reduceBEq, RH, e_h1, h30', h31', e_h33, FF, LN, NN, NT]
    · have h30' := decide_eq_false h30
      conv => arg 1; simp (maxSteps := 1000000) (disch := first | assumption | decide | with_unfolding_all rfl | omega | (simp only [LN] <;> omega) | (simp only [RO, OF])) only [RR, RM, LN, TT, d70_at, ↓reduceIte, Nat.reduceEqDiff, Nat.reduceLT, Nat.reduceLeDiff, Nat.reduceAdd, Nat.reduceSub, Nat.reduceMul, Nat.reduceMod, Nat.reduceDiv, Nat.reduceBEq, RH, e_h1, h30']
      refine J.eq ret_seq ?_
      conv => arg 1; simp (maxSteps := 1000000) (disch := first | assumption | decide | with_unfolding_all rfl | omega | (simp only [LN] <;> omega) | (simp only [RO, OF])) only [RR, RM, LN, TT, d70_at, ↓reduceIte, Nat.reduceEqDiff, Nat.reduceLT, Nat.reduceLeDiff, Nat.reduceAdd, Nat.reduceSub, Nat.reduceMul, Nat.reduceMod, Nat.reduceDiv, Nat.reduceBEq, RH, e_h1, h30']
      refine J.eq go_seq ?_
      conv => arg 1; simp (maxSteps := 1000000) (disch := first | assumption | decide | with_unfolding_all rfl | omega | (simp only [LN] <;> omega) | (simp only [RO, OF])) only [RR, RM, LN, TT, d70_at, ↓reduceIte, Nat.reduceEqDiff, Nat.reduceLT, Nat.reduceLeDiff, Nat.reduceAdd, Nat.reduceSub, Nat.reduceMul, Nat.reduceMod, Nat.reduceDiv, Nat.reduceBEq, RH, e_h1, h30']
      refine J.eq ret_seq ?_
      conv => arg 1; simp (maxSteps := 1000000) (disch := first | assumption | decide | with_unfolding_all rfl | omega | (simp only [LN] <;> omega) | (simp only [RO, OF])) only [RR, RM, LN, TT, d70_at, ↓reduceIte, Nat.reduceEqDiff, Nat.reduceLT, Nat.reduceLeDiff, Nat.reduceAdd, Nat.reduceSub, Nat.reduceMul, Nat.reduceMod, Nat.reduceDiv, Nat.reduceBEq, RH, e_h1, h30']
      refine J.ite (fun h34 => ?_) (fun h34 => ?_)
      · have h34' := decide_eq_true h34
        have h34'' : decide ((-300) ≤ x3) = false := decide_eq_false (by omega)
        refine J.bind fun x21 h35 => ?_
        have e_h35 := H132_0 _ _ _ h35
        try simp only [NN, NT, LN] at e_h35
        refine J.some ?_
        simp (maxSteps := 20000000) (disch := first | assumption | decide | with_unfolding_all rfl | omega | (simp only [LN] <;> omega) | (simp only [RO, OF])) only [RR, RM, LN, TT, d70_at, ↓reduceIte, Nat.reduceEqDiff, Nat.reduceLT, Nat.reduceLeDiff, Nat.reduceAdd, Nat.reduceSub, Nat.reduceMul, Nat.reduceMod, Nat.reduceDiv, Nat.reduceBEq, RH, e_h1, h30', h34'', h34', e_h35, FF, LN, NN, NT]
      · have h34' := decide_eq_false h34
        have h34'' : decide ((-300) ≤ x3) = true := decide_eq_true (by omega)
        conv => arg 1; simp (maxSteps := 1000000) (disch := first | assumption | decide | with_unfolding_all rfl | omega | (simp only [LN] <;> omega) | (simp only [RO, OF])) only [RR, RM, LN, TT, d70_at, ↓reduceIte, Nat.reduceEqDiff, Nat.reduceLT, Nat.reduceLeDiff, Nat.reduceAdd, Nat.reduceSub, Nat.reduceMul, Nat.reduceMod, Nat.reduceDiv, Nat.reduceBEq, RH, e_h1, h30', h34'', h34']
        refine J.ite (fun h36 => ?_) (fun h36 => ?_)
        · have h36' := decide_eq_true h36
          have h36'' : decide (x3 ≤ 200) = false := decide_eq_false (by omega)
          refine J.bind fun x22 h37 => ?_
          have e_h37 := H133_0 _ _ _ h37
          try simp only [NN, NT, LN] at e_h37
          refine J.some ?_
          simp (maxSteps := 20000000) (disch := first | assumption | decide | with_unfolding_all rfl | omega | (simp only [LN] <;> omega) | (simp only [RO, OF])) only [RR, RM, LN, TT, d70_at, ↓reduceIte, Nat.reduceEqDiff, Nat.reduceLT, Nat.reduceLeDiff, Nat.reduceAdd, Nat.reduceSub, Nat.reduceMul, Nat.reduceMod, Nat.reduceDiv, Nat.reduceBEq, RH, e_h1, h30', h34'', h34', h36'', h36', e_h37, FF, LN, NN, NT]
        · have h36' := decide_eq_false h36
          have h36'' : decide (x3 ≤ 200) = true := decide_eq_true (by omega)
          conv => arg 1; simp (maxSteps := 1000000) (disch := first | assumption | decide | with_unfolding_all rfl | omega | (simp only [LN] <;> omega) | (simp only [RO, OF])) only [RR, RM, LN, TT, d70_at, ↓reduceIte, Nat.reduceEqDiff, Nat.reduceLT, Nat.reduceLeDiff, Nat.reduceAdd, Nat.reduceSub, Nat.reduceMul, Nat.reduceMod, Nat.reduceDiv, Nat.reduceBEq, RH, e_h1, h30', h34'', h34', h36'', h36']
          refine J.jmp (t := ()) hj1 ?_ ?_
          · first | rfl | (simp only [LN, NN, NT])
          · first | (simp (disch := first | assumption | decide | with_unfolding_all rfl | omega | (simp only [LN] <;> omega) | (simp only [RO, OF])) only [RR, ↓reduceIte, Nat.reduceEqDiff, Nat.reduceLT, Nat.reduceLeDiff, Nat.reduceAdd, Nat.reduceSub, Nat.reduceMul, Nat.reduceMod, Nat.reduceDiv, Nat.reduceBEq, LN, NN, NT]; done) | (simp (disch := first | assumption | decide | with_unfolding_all rfl | omega | (simp only [LN] <;> omega) | (simp only [RO, OF])) only [RR, ↓reduceIte, Nat.reduceEqDiff, Nat.reduceLT, Nat.reduceLeDiff, Nat.reduceAdd, Nat.reduceSub, Nat.reduceMul, Nat.reduceMod, Nat.reduceDiv, Nat.reduceBEq, LN, fm_app, NN, NT]; done) | rfl
noncomputable def t70 (fu : Nat) : CallP := orE 131 (mkC (fun (t : Int) => ([.v (.int .u64 t)] : List AV)) (fun t => math_bits_Len64 fu t) e131) (orE 132 (mkC (fun (t : Int × Bool) => ([.v (.int .i64 t.1), .v (.bool t.2)] : List AV)) (fun t => soft_tiny fu t.1 t.2) e132) (orE 71 (mkC (fun (t : Bool) => ([.v (.bool t)] : List AV)) (fun t => soft_sign fu t) e71) (orE 133 (mkC (fun (t : Int × Bool) => ([.v (.int .i64 t.1), .v (.bool t.2)] : List AV)) (fun t => soft_huge fu t.1 t.2) e133) (orE 134 (mkC (fun (t : Int × Bool) => ([.v (.int .i64 t.1), .v (.bool t.2)] : List AV)) (fun t => soft_outwards fu t.1 t.2) e134) (noP)))))
theorem t70_ok (fu : Nat) : CpOK Tryz.prog (t70 fu ) := orE_ok (orE_ok (orE_ok (orE_ok (orE_ok (noP_ok) (mkC_ok (fun t b h => ok134 fu t.1 t.2  b h))) (mkC_ok (fun t b h => ok133 fu t.1 t.2  b h))) (mkC_ok (fun t b h => ok71 fu t  b h))) (mkC_ok (fun t b h => ok132 fu t.1 t.2  b h))) (mkC_ok (fun t b h => ok131 fu t  b h))
theorem ok70 (fu : Nat) (x1 : Int) (x2 : Bool) (x3 : Int) (x4 : Int) (x5 : Bool) (r) (h : soft_Round fu x1 x2 x3 x4 x5 = some r) : PureOK Tryz.prog 70 [.v (.int .i64 x1), .v (.bool x2), .v (.int .i64 x3), .v (.int .u64 x4), .v (.bool x5)] (e70 r) :=
  pure_J mixed (cp := t70 fu ) (t70_ok fu  ) noI_ok i70 (w70 _ fu x1 x2 x3 x4 x5  (fun a0 r h => orE_hit (mkC_at (a := a0) (by intro a b h; first | (exact rfl) | (simp only [INJ, IJ] at h; first | exact h | (simp_all [Prod.ext_iff]) )) h)) (fun a0 a1 r h => orE_miss (by decide) (orE_hit (mkC_at (a := (a0, a1)) (by intro a b h; first | (exact rfl) | (simp only [INJ, IJ] at h; first | exact h | (simp_all [Prod.ext_iff]) )) h))) (fun a0 r h => orE_miss (by decide) (orE_miss (by decide) (orE_hit (mkC_at (a := a0) (by intro a b h; first | (exact rfl) | (simp only [INJ, IJ] at h; first | exact h | (simp_all [Prod.ext_iff]) )) h)))) (fun a0 a1 r h => orE_miss (by decide) (orE_miss (by decide) (orE_miss (by decide) (orE_hit (mkC_at (a := (a0, a1)) (by intro a b h; first | (exact rfl) | (simp only [INJ, IJ] at h; first | exact h | (simp_all [Prod.ext_iff]) )) h))))) (fun a0 a1 r h => orE_miss (by decide) (orE_miss (by decide) (orE_miss (by decide) (orE_miss (by decide) (orE_hit (mkC_at (a := (a0, a1)) (by intro a b h; first | (exact rfl) | (simp only [INJ, IJ] at h; first | exact h | (simp_all [Prod.ext_iff]) )) h))))))) h
/-! 37: lattice/soft.AddBy -/
def d37 : List (Nat × List Nat) := [(0, [6]), (0, [1, 2]), (0, [14, 15, 16, 17]), (0, [7, 13]), (0, [19, 20, 21, 22, 23, 24, 25, 26, 27, 28, 29, 30, 31, 32, 33, 34, 35, 36, 37, 38, 39]), (0, []), (0, []), (0, []), (0, [41, 42]), (0, []), (0, [43]), (0, []), (0, [45, 46]), (0, []), (0, [47]), (0, []), (0, [49, 50, 51, 52, 53, 54, 55, 56]), (0, []), (0, [57, 58]), (0, []), (0, [60]), (0, []), (0, [61, 62]), (0, []), (0, [63, 64, 65, 66]), (0, []), (0, [68, 69]), (0, []), (0, [70, 71, 72, 73, 74]), (0, []), (10, [75, 76, 77, 78, 79, 80]), (0, []), (0, [81]), (0, []), (0, [83, 84, 85]), (0, []), (0, [86, 87]), (0, []), (0, [88, 89, 90]), (0, []), (0, [91, 92, 93, 94, 95]), (0, []), (8, [96, 97, 98, 99, 100, 101, 102]), (0, []), (0, [9, 104, 105, 106, 107, 108]), (0, []), (0, [109, 110, 111, 112, 113, 114, 115, 116, 117]), (0, []), (0, [119]), (0, []), (0, [120, 121, 122, 123, 124, 125, 126, 127, 128]), (0, []), (0, [130, 131, 132]), (0, []), (0, [133, 134]), (0, []), (0, [136, 137, 138]), (0, []), (0, [139, 140, 141, 142, 143, 144, 145, 146]), (0, []), (0, [0, 8, 10, 11, 12, 147, 148, 149, 150, 151, 152, 153, 154])]
def d37_at := And.intro (show d37.getD 0 (0, []) = (0, [6]) from rfl) <| And.intro (show d37.getD 1 (0, []) = (0, [1, 2]) from rfl) <| And.intro (show d37.getD 2 (0, []) = (0, [14, 15, 16, 17]) from rfl) <| And.intro (show d37.getD 3 (0, []) = (0, [7, 13]) from rfl) <| And.intro (show d37.getD 4 (0, []) = (0, [19, 20, 21, 22, 23, 24, 25, 26, 27, 28, 29, 30, 31, 32, 33, 34, 35, 36, 37, 38, 39]) from rfl) <| And.intro (show d37.getD 5 (0, []) = (0, []) from rfl) <| And.intro (show d37.getD 6 (0, []) = (0, []) from rfl) <| And.intro (show d37.getD 7 (0, []) = (0, []) from rfl) <| And.intro (show d37.getD 8 (0, []) = (0, [41, 42]) from rfl) <| And.intro (show d37.getD 9 (0, []) = (0, []) from rfl) <| And.intro (show d37.getD 10 (0, []) = (0, [43]) from rfl) <| And.intro (show d37.getD 11 (0, []) = (0, []) from rfl) <| And.intro (show d37.getD 12 (0, []) = (0, [45, 46]) from rfl) <| And.intro (show d37.getD 13 (0, []) = (0, []) from rfl) <| And.intro (show d37.getD 14 (0, []) = (0, [47]) from rfl) <| And.intro (show d37.getD 15 (0, []) = (0, []) from rfl) <| And.intro (show d37.getD 16 (0, []) = (0, [49, 50, 51, 52, 53, 54, 55, 56]) from rfl) <| And.intro (show d37.getD 17 (0, []) = (0, []) from rfl) <| And.intro (show d37.getD 18 (0, []) = (0, [57, 58]) from rfl) <| And.intro (show d37.getD 19 (0, []) = (0, []) from rfl) <| And.intro (show d37.getD 20 (0, []) = (0, [60]) from rfl) <| And.intro (show d37.getD 21 (0, []) = (0, []) from rfl) <| And.intro (show d37.getD 22 (0, []) = (0, [61, 62]) from rfl) <| And.intro (show d37.getD 23 (0, []) = (0, []) from rfl) <| And.intro (show d37.getD 24 (0, []) = (0, [63, 64, 65, 66]) from rfl) <| And.intro (show d37.getD 25 (0, []) = (0, []) from rfl) <| And.intro (show d37.getD 26 (0, []) = (0, [68, 69]) from rfl) <| And.intro (show d37.getD 27 (0, []) = (0, []) from rfl) <| And.intro (show d37.getD 28 (0, []) = (0, [70, 71, 72, 73, 74]) from rfl) <| And.intro (show d37.getD 29 (0, []) = (0, []) from rfl) <| And.intro (show d37.getD 30 (0, []) = (10, [75, 76, 77, 78, 79, 80]) from rfl) <| And.intro (show d37.getD 31 (0, []) = (0, []) from rfl) <| And.intro (show d37.getD 32 (0, []) = (0, [81]) from rfl) <| And.intro (show d37.getD 33 (0, []) = (0, []) from rfl) <| And.intro (show d37.getD 34 (0, []) = (0, [83, 84, 85]) from rfl) <| And.intro (show d37.getD 35 (0, []) = (0, []) from rfl) <| And.intro (show d37.getD 36 (0, []) = (0, [86, 87]) from rfl) <| And.intro (show d37.getD 37 (0, []) = (0, []) from rfl) <| And.intro (show d37.getD 38 (0, []) = (0, [88, 89, 90]) from rfl) <| And.intro (show d37.getD 39 (0, []) = (0, []) from rfl) <| And.intro (show d37.getD 40 (0, []) = (0, [91, 92, 93, 94, 95]) from rfl) <| And.intro (show d37.getD 41 (0, []) = (0, []) from rfl) <| And.intro (show d37.getD 42 (0, []) = (8, [96, 97, 98, 99, 100, 101, 102]) from rfl) <| And.intro (show d37.getD 43 (0, []) = (0, []) from rfl) <| And.intro (show d37.getD 44 (0, []) = (0, [9, 104, 105, 106, 107, 108]) from rfl) <| And.intro (show d37.getD 45 (0, []) = (0, []) from rfl) <| And.intro (show d37.getD 46 (0, []) = (0, [109, 110, 111, 112, 113, 114, 115, 116, 117]) from rfl) <| And.intro (show d37.getD 47 (0, []) = (0, []) from rfl) <| And.intro (show d37.getD 48 (0, []) = (0, [119]) from rfl) <| And.intro (show d37.getD 49 (0, []) = (0, []) from rfl) <| And.intro (show d37.getD 50 (0, []) = (0, [120, 121, 122, 123, 124, 125, 126, 127, 128]) from rfl) <| And.intro (show d37.getD 51 (0, []) = (0, []) from rfl) <| And.intro (show d37.getD 52 (0, []) = (0, [130, 131, 132]) from rfl) <| And.intro (show d37.getD 53 (0, []) = (0, []) from rfl) <| And.intro (show d37.getD 54 (0, []) = (0, [133, 134]) from rfl) <| And.intro (show d37.getD 55 (0, []) = (0, []) from rfl) <| And.intro (show d37.getD 56 (0, []) = (0, [136, 137, 138]) from rfl) <| And.intro (show d37.getD 57 (0, []) = (0, []) from rfl) <| And.intro (show d37.getD 58 (0, []) = (0, [139, 140, 141, 142, 143, 144, 145, 146]) from rfl) <| And.intro (show d37.getD 59 (0, []) = (0, []) from rfl) <| (show d37.getD 60 (0, []) = (0, [0, 8, 10, 11, 12, 147, 148, 149, 150, 151, 152, 153, 154]) from rfl)
theorem i37 : finfo Tryz.prog 37 d37 = some ⟨bodyOf Tryz.f37, [.tmp 6], [24]⟩ := finfo_at Tryz.func37 rfl (by kernel_rfl) (by kernel_rfl)
def e37 : Int → AV := fun r => .v (.int .u32 r)
set_option maxHeartbeats 20000000 in
theorem w37 (cp : CallP) (fu : Nat) (x1 : Int) (x2 : Int) (x3 : Int) (H68_0 : ∀ (a0 : Int) r, soft_open fu a0 = some r → cp 68 [.v (.int .u32 a0)] = some (.agg [.v (.bool r.fneg), .v (.bool r.fnan), .v (.bool r.finf), .v (.int .i64 r.fexp), .v (.int .u64 r.fsig)])) (H69_0 : ∀ (a0 : Int) r, soft_nought fu a0 = some r → cp 69 [.v (.int .i64 a0)] = some (.v (.int .u32 r))) (H70_0 : ∀ (a0 : Int) (a1 : Bool) (a2 : Int) (a3 : Int) (a4 : Bool) r, soft_Round fu a0 a1 a2 a3 a4 = some r → cp 70 [.v (.int .i64 a0), .v (.bool a1), .v (.int .i64 a2), .v (.int .u64 a3), .v (.bool a4)] = some (.v (.int .u32 r))) : J (go Tryz.prog noC cp noI 0 [] d37 fu (fin Tryz.prog [.tmp 6] [24]) (bodyOf Tryz.f37) (initE 0 [.v (.int .i64 x1), .v (.int .u32 x2), .v (.int .u32 x3)]) [] []) (soft_AddBy fu x1 x2 x3) e37 := by
  unfold soft_AddBy e37
  refine J.bind fun x4 h1 => ?_
  have e_h1 := H68_0 _ _ h1
  try simp only [NN, NT, LN] at e_h1
  refine J.bind fun x5 h2 => ?_
  have e_h2 := H68_0 _ _ h2
  try simp only [NN, NT, LN] at e_h2
  conv => arg 1; simp (maxSteps := 1000000) (disch := first | assumption | decide | with_unfolding_all rfl | omega | (simp only [LN] <;> omega) | (simp only [RO, OF])) only [bodyOf, Tryz.f37, RR, RM, LN, TT, d37_at, ↓reduceIte, Nat.reduceEqDiff, Nat.reduceLT, Nat.reduceLeDiff, Nat.reduceAdd, Nat.reduceSub, Nat.reduceMul, Nat.reduceMod, Nat.reduceDiv, Nat.reduceBEq, RH, e_h1, e_h2]
  refine J.joinS (fun (t : Unit) => ([(0, .v (.int .i64 x1)), (7, .ptr (0, 7, 0) 0 0), (8, .ptr (0, 8, 0) 0 0)], [((0, 7, 0), .bx true ([.v (.bool x4.fneg), .v (.bool false), .v (.bool false), .v (.int .i64 x4.fexp), .v (.int .u64 x4.fsig)])), ((0, 8, 0), .bx true ([.v (.bool x5.fneg), .v (.bool false), .v (.bool false), .v (.int .i64 x5.fexp), .v (.int .u64 x5.fsig)]))])) (fun t => soft_AddBy_k1 fu x1 x4 x5) ?_ (fun hj1 => ?_)
  · rintro ⟨⟩
    show J _ (soft_AddBy_k1 fu x1 x4 x5) _
    unfold soft_AddBy_k1
    refine J.joinS (fun (t : Bool × Int × Int × Bool × Int × Int) => ([(0, .v (.int .i64 x1)), (7, .ptr (0, 7, 0) 0 0), (8, .ptr (0, 8, 0) 0 0)], [((0, 7, 0), .bx true ([.v (.bool t.1), .v (.bool false), .v (.bool false), .v (.int .i64 t.2.1), .v (.int .u64 t.2.2.1)])), ((0, 8, 0), .bx true ([.v (.bool t.2.2.2.1), .v (.bool false), .v (.bool false), .v (.int .i64 t.2.2.2.2.1), .v (.int .u64 t.2.2.2.2.2)]))])) (fun t => soft_AddBy_k2 fu x1 t.1 t.2.1 t.2.2.1 t.2.2.2.1 t.2.2.2.2.1 t.2.2.2.2.2) ?_ (fun hj2 => ?_)
    · rintro ⟨x6, x7, x8, x9, x10, x11⟩
      show J _ (soft_AddBy_k2 fu x1 x6 x7 x8 x9 x10 x11) _
      unfold soft_AddBy_k2
      conv => arg 1; simp (maxSteps := 1000000) (disch := first | assumption | decide | with_unfolding_all rfl | omega | (simp only [LN] <;> omega) | (simp only [RO, OF])) only [RR, RM, LN, TT, d37_at, ↓reduceIte, Nat.reduceEqDiff, Nat.reduceLT, Nat.reduceLeDiff, Nat.reduceAdd, Nat.reduceSub, Nat.reduceMul, Nat.reduceMod, Nat.reduceDiv, Nat.reduceBEq, RH, e_h1, e_h2]
      refine J.joinS (fun (t : Int × Int × Int × Bool) => ([(0, .v (.int .i64 x1)), (7, .ptr (0, 7, 0) 0 0), (8, .ptr (0, 8, 0) 0 0), (9, .v (.int .i64 (wk .i64 (x7 - x10)))), (10, .v (.int .i64 t.1)), (11, .v (.int .u64 t.2.1)), (12, .v (.int .u64 t.2.2.1)), (13, .v (.bool t.2.2.2))], [((0, 7, 0), .bx true ([.v (.bool x6), .v (.bool false), .v (.bool false), .v (.int .i64 x7), .v (.int .u64 x8)])), ((0, 8, 0), .bx true ([.v (.bool x9), .v (.bool false), .v (.bool false), .v (.int .i64 x10), .v (.int .u64 x11)]))])) (fun t => soft_AddBy_k3 fu x1 x6 x9 t.1 t.2.1 t.2.2.1 t.2.2.2) ?_ (fun hj3 => ?_)
      · rintro ⟨x12, x13, x14, x15⟩
        show J _ (soft_AddBy_k3 fu x1 x6 x9 x12 x13 x14 x15) _
        unfold soft_AddBy_k3
        refine J.eq go_seq ?_
        conv => arg 1; simp (maxSteps := 1000000) (disch := first | assumption | decide | with_unfolding_all rfl | omega | (simp only [LN] <;> omega) | (simp only [RO, OF])) only [RR, RM, LN, TT, d37_at, ↓reduceIte, Nat.reduceEqDiff, Nat.reduceLT, Nat.reduceLeDiff, Nat.reduceAdd, Nat.reduceSub, Nat.reduceMul, Nat.reduceMod, Nat.reduceDiv, Nat.reduceBEq, RH, e_h1, e_h2]
        refine J.ite (fun h3 => ?_) (fun h3 => ?_)
        · have h3' : (x6 == x9) = true := h3
          refine J.bind fun x16 h4 => ?_
          have e_h4 := H70_0 _ _ _ _ _ _ h4
          try simp only [NN, NT, LN] at e_h4
          refine J.some ?_
          simp (maxSteps := 20000000) (disch := first | assumption | decide | with_unfolding_all rfl | omega | (simp only [LN] <;> omega) | (simp only [RO, OF])) only [RR, RM, LN, TT, d37_at, ↓reduceIte, Nat.reduceEqDiff, Nat.reduceLT, Nat.reduceLeDiff, Nat.reduceAdd, Nat.reduceSub, Nat.reduceMul, Nat.reduceMod, Nat.reduceDiv, Nat.reduceBEq, RH, e_h1, e_h2, h3', e_h4, FF, LN, NN, NT]
        · have h3' : (x6 == x9) = false := Bool.eq_false_iff.2 h3
          conv => arg 1; simp (maxSteps := 1000000) (disch := first | assumption | decide | with_unfolding_all rfl | omega | (simp only [LN] <;> omega) | (simp only [RO, OF])) only [RR, RM, LN, TT, d37_at, ↓reduceIte, Nat.reduceEqDiff, Nat.reduceLT, Nat.reduceLeDiff, Nat.reduceAdd, Nat.reduceSub, Nat.reduceMul, Nat.reduceMod, Nat.reduceDiv, Nat.reduceBEq, RH, e_h1, e_h2, h3']
          refine J.ite (fun h5 => ?_) (fun h5 => ?_)
          · have h5' : x15 = true := h5
            refine J.bind fun x17 h6 => ?_
            have e_h6 := H70_0 _ _ _ _ _ _ h6
            try simp only [NN, NT, LN] at e_h6
            refine J.some ?_
            simp (maxSteps := 20000000) (disch := first | assumption | decide | with_unfolding_all rfl | omega | (simp only [LN] <;> omega) | (simp only [RO, OF])) only [RR, RM, LN, TT, d37_at, ↓reduceIte, Nat.reduceEqDiff, Nat.reduceLT, Nat.reduceLeDiff, Nat.reduceAdd, Nat.reduceSub, Nat.reduceMul, Nat.reduceMod, Nat.reduceDiv, Nat.reduceBEq, RH, e_h1, e_h2, h3', h5', e_h6, FF, LN, NN, NT]
          · have h5' : x15 = false := Bool.eq_false_iff.2 h5
            conv => arg 1; simp (maxSteps := 1000000) (disch := first | assumption | decide | with_unfolding_all rfl | omega | (simp only [LN] <;> omega) | (simp only [RO, OF])) only [RR, RM, LN, TT, d37_at, ↓reduceIte, Nat.reduceEqDiff, Nat.reduceLT, Nat.reduceLeDiff, Nat.reduceAdd, Nat.reduceSub, Nat.reduceMul, Nat.reduceMod, Nat.reduceDiv, Nat.reduceBEq, RH, e_h1, e_h2, h3', h5']
            refine J.ite (fun h7 => ?_) (fun h7 => ?_)
            · have h7' := decide_eq_true h7
              refine J.bind fun x18 h8 => ?_
              have e_h8 := H69_0 _ _ h8
              try simp only [NN, NT, LN] at e_h8
              refine J.some ?_
              simp (maxSteps := 20000000) (disch := first | assumption | decide | with_unfolding_all rfl | omega | (simp only [LN] <;> omega) | (simp only [RO, OF])) only [RR, RM, LN, TT, d37_at, ↓reduceIte, Nat.reduceEqDiff, Nat.reduceLT, Nat.reduceLeDiff, Nat.reduceAdd, Nat.reduceSub, Nat.reduceMul, Nat.reduceMod, Nat.reduceDiv, Nat.reduceBEq, RH, e_h1, e_h2, h3', h5', h7', e_h8, FF, LN, NN, NT]
            · have h7' := decide_eq_false h7
              conv => arg 1; simp (maxSteps := 1000000) (disch := first | assumption | decide | with_unfolding_all rfl | omega | (simp only [LN] <;> omega) | (simp only [RO, OF])) only [RR, RM, LN, TT, d37_at, ↓reduceIte, Nat.reduceEqDiff, Nat.reduceLT, Nat.reduceLeDiff, Nat.reduceAdd, Nat.reduceSub, Nat.reduceMul, Nat.reduceMod, Nat.reduceDiv, Nat.reduceBEq, RH, e_h1, e_h2, h3', h5', h7']
              refine J.ite (fun h9 => ?_) (fun h9 => ?_)
              · have h9' := decide_eq_true h9
                have h9'' : decide (x13 ≤ x14) = false := decide_eq_false (by omega)
                refine J.bind fun x19 h10 => ?_
                have e_h10 := H70_0 _ _ _ _ _ _ h10
                try simp only [NN, NT, LN] at e_h10
                refine J.some ?_
                simp (maxSteps := 20000000) (disch := first | assumption | decide | with_unfolding_all rfl | omega | (simp only [LN] <;> omega) | (simp only [RO, OF])) only [RR, RM, LN, TT, d37_at, ↓reduceIte, Nat.reduceEqDiff, Nat.reduceLT, Nat.reduceLeDiff, Nat.reduceAdd, Nat.reduceSub, Nat.reduceMul, Nat.reduceMod, Nat.reduceDiv, Nat.reduceBEq, RH, e_h1, e_h2, h3', h5', h7', h9'', h9', e_h10, FF, LN, NN, NT]
              · have h9' := decide_eq_false h9
                have h9'' : decide (x13 ≤ x14) = true := decide_eq_true (by omega)
                conv => arg 1; simp (maxSteps := 1000000) (disch := first | assumption | decide | with_unfolding_all rfl | omega | (simp only [LN] <;> omega) | (simp only [RO, OF])) only [RR, RM, LN, TT, d37_at, ↓reduceIte, Nat.reduceEqDiff, Nat.reduceLT, Nat.reduceLeDiff, Nat.reduceAdd, Nat.reduceSub, Nat.reduceMul, Nat.reduceMod, Nat.reduceDiv, Nat.reduceBEq, RH, e_h1, e_h2, h3', h5', h7', h9'', h9']
                refine J.eq ret_seq ?_
                refine J.bind fun x20 h11 => ?_
                have e_h11 := H70_0 _ _ _ _ _ _ h11
                try simp only [NN, NT, LN] at e_h11
                refine J.some ?_
                simp (maxSteps := 20000000) (disch := first | assumption | decide | with_unfolding_all rfl | omega | (simp only [LN] <;> omega) | (simp only [RO, OF])) only [RR, RM, LN, TT, d37_at, ↓reduceIte, Nat.reduceEqDiff, Nat.reduceLT, Nat.reduceLeDiff, Nat.reduceAdd, Nat.reduceSub, Nat.reduceMul, Nat.reduceMod, Nat.reduceDiv, Nat.reduceBEq, RH, e_h1, e_h2, h3', h5', h7', h9'', h9', e_h11, FF, LN, NN, NT]
      · conv => arg 1; simp (maxSteps := 1000000) (disch := first | assumption | decide | with_unfolding_all rfl | omega | (simp only [LN] <;> omega) | (simp only [RO, OF])) only [RR, RM, LN, TT, d37_at, ↓reduceIte, Nat.reduceEqDiff, Nat.reduceLT, Nat.reduceLeDiff, Nat.reduceAdd, Nat.reduceSub, Nat.reduceMul, Nat.reduceMod, Nat.reduceDiv, Nat.reduceBEq, RH, e_h1, e_h2]
        refine J.ite (fun h12 => ?_) (fun h12 => ?_)
        · have h12' := decide_eq_true h12
          have h12'' : decide (38 < (wk .i64 (x7 - x10))) = false := decide_eq_false (by omega)
          refine J.chk fun h13 => ?_
          conv => arg 1; simp (maxSteps := 1000000) (disch := first | assumption | decide | with_unfolding_all rfl | omega | (simp only [LN] <;> omega) | (simp only [RO, OF])) only [RR, RM, LN, TT, d37_at, ↓reduceIte, Nat.reduceEqDiff, Nat.reduceLT, Nat.reduceLeDiff, Nat.reduceAdd, Nat.reduceSub, Nat.reduceMul, Nat.reduceMod, Nat.reduceDiv, Nat.reduceBEq, RH, e_h1, e_h2, h12'', h12']
          refine J.jmp (t := (x10, shlk .u64 x8 (wk .i64 (x7 - x10)), x11, false)) hj3 ?_ ?_
          · first | rfl | (simp only [LN, NN, NT])
          · first | (simp (disch := first | assumption | decide | with_unfolding_all rfl | omega | (simp only [LN] <;> omega) | (simp only [RO, OF])) only [RR, ↓reduceIte, Nat.reduceEqDiff, Nat.reduceLT, Nat.reduceLeDiff, Nat.reduceAdd, Nat.reduceSub, Nat.reduceMul, Nat.reduceMod, Nat.reduceDiv, Nat.reduceBEq, LN, NN, NT]; done) | (simp (disch := first | assumption | decide | with_unfolding_all rfl | omega | (simp only [LN] <;> omega) | (simp only [RO, OF])) only [RR, ↓reduceIte, Nat.reduceEqDiff, Nat.reduceLT, Nat.reduceLeDiff, Nat.reduceAdd, Nat.reduceSub, Nat.reduceMul, Nat.reduceMod, Nat.reduceDiv, Nat.reduceBEq, LN, fm_app, NN, NT]; done) | rfl
        · have h12' := decide_eq_false h12
          have h12'' : decide (38 < (wk .i64 (x7 - x10))) = true := decide_eq_true (by omega)
          refine J.chk fun h14 => ?_
          conv => arg 1; simp (maxSteps := 1000000) (disch := first | assumption | decide | with_unfolding_all rfl | omega | (simp only [LN] <;> omega) | (simp only [RO, OF])) only [RR, RM, LN, TT, d37_at, ↓reduceIte, Nat.reduceEqDiff, Nat.reduceLT, Nat.reduceLeDiff, Nat.reduceAdd, Nat.reduceSub, Nat.reduceMul, Nat.reduceMod, Nat.reduceDiv, Nat.reduceBEq, RH, e_h1, e_h2, h12'', h12']
          refine J.jmp (t := (wk .i64 (x7 - 38), shlk .u64 x8 38, shrk .u64 x11 (wk .i64 ((wk .i64 (x7 - x10)) - 38)), !(decide ((shlk .u64 (shrk .u64 x11 (wk .i64 ((wk .i64 (x7 - x10)) - 38))) (wk .i64 ((wk .i64 (x7 - x10)) - 38))) = x11)))) hj3 ?_ ?_
          · first | rfl | (simp only [LN, NN, NT])
          · first | (simp (disch := first | assumption | decide | with_unfolding_all rfl | omega | (simp only [LN] <;> omega) | (simp only [RO, OF])) only [RR, ↓reduceIte, Nat.reduceEqDiff, Nat.reduceLT, Nat.reduceLeDiff, Nat.reduceAdd, Nat.reduceSub, Nat.reduceMul, Nat.reduceMod, Nat.reduceDiv, Nat.reduceBEq, LN, NN, NT]; done) | (simp (disch := first | assumption | decide | with_unfolding_all rfl | omega | (simp only [LN] <;> omega) | (simp only [RO, OF])) only [RR, ↓reduceIte, Nat.reduceEqDiff, Nat.reduceLT, Nat.reduceLeDiff, Nat.reduceAdd, Nat.reduceSub, Nat.reduceMul, Nat.reduceMod, Nat.reduceDiv, Nat.reduceBEq, LN, fm_app, NN, NT]; done) | rfl
    · conv => arg 1; simp (maxSteps := 1000000) (disch := first | assumption | decide | with_unfolding_all rfl | omega | (simp only [LN] <;> omega) | (simp only [RO, OF])) only [RR, RM, LN, TT, d37_at, ↓reduceIte, Nat.reduceEqDiff, Nat.reduceLT, Nat.reduceLeDiff, Nat.reduceAdd, Nat.reduceSub, Nat.reduceMul, Nat.reduceMod, Nat.reduceDiv, Nat.reduceBEq, RH, e_h1, e_h2]
      refine J.ite (fun h15 => ?_) (fun h15 => ?_)
      · have h15' := decide_eq_true h15
        have h15'' : decide (x5.fexp ≤ x4.fexp) = false := decide_eq_false (by omega)
        conv => arg 1; simp (maxSteps := 1000000) (disch := first | assumption | decide | with_unfolding_all rfl | omega | (simp only [LN] <;> omega) | (simp only [RO, OF])) only [RR, RM, LN, TT, d37_at, ↓reduceIte, Nat.reduceEqDiff, Nat.reduceLT, Nat.reduceLeDiff, Nat.reduceAdd, Nat.reduceSub, Nat.reduceMul, Nat.reduceMod, Nat.reduceDiv, Nat.reduceBEq, RH, e_h1, e_h2, h15'', h15']
        refine J.jmp (t := (x5.fneg, x5.fexp, x5.fsig, x4.fneg, x4.fexp, x4.fsig)) hj2 ?_ ?_
        · first | rfl | (simp only [LN, NN, NT])
        · first | (simp (disch := first | assumption | decide | with_unfolding_all rfl | omega | (simp only [LN] <;> omega) | (simp only [RO, OF])) only [RR, ↓reduceIte, Nat.reduceEqDiff, Nat.reduceLT, Nat.reduceLeDiff, Nat.reduceAdd, Nat.reduceSub, Nat.reduceMul, Nat.reduceMod, Nat.reduceDiv, Nat.reduceBEq, LN, NN, NT]; done) | (simp (disch := first | assumption | decide | with_unfolding_all rfl | omega | (simp only [LN] <;> omega) | (simp only [RO, OF])) only [RR, ↓reduceIte, Nat.reduceEqDiff, Nat.reduceLT, Nat.reduceLeDiff, Nat.reduceAdd, Nat.reduceSub, Nat.reduceMul, Nat.reduceMod, Nat.reduceDiv, Nat.reduceBEq, LN, fm_app, NN, NT]; done) | rfl
      · have h15' := decide_eq_false h15
        have h15'' : decide (x5.fexp ≤ x4.fexp) = true := decide_eq_true (by omega)
        conv => arg 1; simp (maxSteps := 1000000) (disch := first | assumption | decide | with_unfolding_all rfl | omega | (simp only [LN] <;> omega) | (simp only [RO, OF])) only [RR, RM, LN, TT, d37_at, ↓reduceIte, Nat.reduceEqDiff, Nat.reduceLT, Nat.reduceLeDiff, Nat.reduceAdd, Nat.reduceSub, Nat.reduceMul, Nat.reduceMod, Nat.reduceDiv, Nat.reduceBEq, RH, e_h1, e_h2, h15'', h15']
        refine J.jmp (t := (x4.fneg, x4.fexp, x4.fsig, x5.fneg, x5.fexp, x5.fsig)) hj2 ?_ ?_
        · first | rfl | (simp only [LN, NN, NT])
        · first | (simp (disch := first | assumption | decide | with_unfolding_all rfl | omega | (simp only [LN] <;> omega) | (simp only [RO, OF])) only [RR, ↓reduceIte, Nat.reduceEqDiff, Nat.reduceLT, Nat.reduceLeDiff, Nat.reduceAdd, Nat.reduceSub, Nat.reduceMul, Nat.reduceMod, Nat.reduceDiv, Nat.reduceBEq, LN, NN, NT]; done) | (simp (disch := first | assumption | decide | with_unfolding_all rfl | omega | (simp only [LN] <;> omega) | (simp only [RO, OF])) only [RR, ↓reduceIte, Nat.reduceEqDiff, Nat.reduceLT, Nat.reduceLeDiff, Nat.reduceAdd, Nat.reduceSub, Nat.reduceMul, Nat.reduceMod, Nat.reduceDiv, Nat.reduceBEq, LN, fm_app, NN, NT]; done) | rfl
  · conv => arg 1; simp (maxSteps := 1000000) (disch := first | assumption | decide | with_unfolding_all rfl | omega | (simp only [LN] <;> omega) | (simp only [RO, OF])) only [RR, RM, LN, TT, d37_at, ↓reduceIte, Nat.reduceEqDiff, Nat.reduceLT, Nat.reduceLeDiff, Nat.reduceAdd, Nat.reduceSub, Nat.reduceMul, Nat.reduceMod, Nat.reduceDiv, Nat.reduceBEq, RH, e_h1, e_h2]
    refine J.eq go_seq ?_
    conv => arg 1; simp (maxSteps := 1000000) (disch := first | assumption | decide | with_unfolding_all rfl | omega | (simp only [LN] <;> omega) | (simp only [RO, OF])) only [RR, RM, LN, TT, d37_at, ↓reduceIte, Nat.reduceEqDiff, Nat.reduceLT, Nat.reduceLeDiff, Nat.reduceAdd, Nat.reduceSub, Nat.reduceMul, Nat.reduceMod, Nat.reduceDiv, Nat.reduceBEq, RH, e_h1, e_h2]
    refine J.ite (fun h16 => ?_) (fun h16 => ?_)
    · have h16' : x4.fnan = true := h16
      conv => arg 1; simp (maxSteps := 1000000) (disch := first | assumption | decide | with_unfolding_all rfl | omega | (simp only [LN] <;> omega) | (simp only [RO, OF])) only [RR, RM, LN, TT, d37_at, ↓reduceIte, Nat.reduceEqDiff, Nat.reduceLT, Nat.reduceLeDiff, Nat.reduceAdd, Nat.reduceSub, Nat.reduceMul, Nat.reduceMod, Nat.reduceDiv, Nat.reduceBEq, RH, e_h1, e_h2, h16']
      refine J.eq ret_seq ?_
      refine J.some ?_
      simp (maxSteps := 20000000) (disch := first | assumption | decide | with_unfolding_all rfl | omega | (simp only [LN] <;> omega) | (simp only [RO, OF])) only [RR, RM, LN, TT, d37_at, ↓reduceIte, Nat.reduceEqDiff, Nat.reduceLT, Nat.reduceLeDiff, Nat.reduceAdd, Nat.reduceSub, Nat.reduceMul, Nat.reduceMod, Nat.reduceDiv, Nat.reduceBEq, RH, e_h1, e_h2, h16', FF, LN, NN, NT]
    · have h16' : x4.fnan = false := Bool.eq_false_iff.2 h16
      conv => arg 1; simp (maxSteps := 1000000) (disch := first | assumption | decide | with_unfolding_all rfl | omega | (simp only [LN] <;> omega) | (simp only [RO, OF])) only [RR, RM, LN, TT, d37_at, ↓reduceIte, Nat.reduceEqDiff, Nat.reduceLT, Nat.reduceLeDiff, Nat.reduceAdd, Nat.reduceSub, Nat.reduceMul, Nat.reduceMod, Nat.reduceDiv, Nat.reduceBEq, RH, e_h1, e_h2, h16']
      refine J.ite (fun h17 => ?_) (fun h17 => ?_)
      · have h17' : x5.fnan = true := h17
        conv => arg 1; simp (maxSteps := 1000000) (disch := first | assumption | decide | with_unfolding_all rfl | omega | (simp only [LN] <;> omega) | (simp only [RO, OF])) only [RR, RM, LN, TT, d37_at, ↓reduceIte, Nat.reduceEqDiff, Nat.reduceLT, Nat.reduceLeDiff, Nat.reduceAdd, Nat.reduceSub, Nat.reduceMul, Nat.reduceMod, Nat.reduceDiv, Nat.reduceBEq, RH, e_h1, e_h2, h16', h17']
        refine J.eq ret_seq ?_
        refine J.some ?_
        simp (maxSteps := 20000000) (disch := first | assumption | decide | with_unfolding_all rfl | omega | (simp only [LN] <;> omega) | (simp only [RO, OF])) only [RR, RM, LN, TT, d37_at, ↓reduceIte, Nat.reduceEqDiff, Nat.reduceLT, Nat.reduceLeDiff, Nat.reduceAdd, Nat.reduceSub, Nat.reduceMul, Nat.reduceMod, Nat.reduceDiv, Nat.reduceBEq, RH, e_h1, e_h2, h16', h17', FF, LN, NN, NT]
      · have h17' : x5.fnan = false := Bool.eq_false_iff.2 h17
        conv => arg 1; simp (maxSteps := 1000000) (disch := first | assumption | decide | with_unfolding_all rfl | omega | (simp only [LN] <;> omega) | (simp only [RO, OF])) only [RR, RM, LN, TT, d37_at, ↓reduceIte, Nat.reduceEqDiff, Nat.reduceLT, Nat.reduceLeDiff, Nat.reduceAdd, Nat.reduceSub, Nat.reduceMul, Nat.reduceMod, Nat.reduceDiv, Nat.reduceBEq, RH, e_h1, e_h2, h16', h17']
        refine J.ite (fun h18 => ?_) (fun h18 => ?_)
        · have h18' : x4.finf = true := h18
          conv => arg 1; simp (maxSteps := 1000000) (disch := first | assumption | decide | with_unfolding_all rfl | omega | (simp only [LN] <;> omega) | (simp only [RO, OF])) only [RR, RM, LN, TT, d37_at, ↓reduceIte, Nat.reduceEqDiff, Nat.reduceLT, Nat.reduceLeDiff, Nat.reduceAdd, Nat.reduceSub, Nat.reduceMul, Nat.reduceMod, Nat.reduceDiv, Nat.reduceBEq, RH, e_h1, e_h2, h16', h17', h18']
          refine J.ite (fun h19 => ?_) (fun h19 => ?_)
          · have h19' : x5.finf = true := h19
            conv => arg 1; simp (maxSteps := 1000000) (disch := first | assumption | decide | with_unfolding_all rfl | omega | (simp only [LN] <;> omega) | (simp only [RO, OF])) only [RR, RM, LN, TT, d37_at, ↓reduceIte, Nat.reduceEqDiff, Nat.reduceLT, Nat.reduceLeDiff, Nat.reduceAdd, Nat.reduceSub, Nat.reduceMul, Nat.reduceMod, Nat.reduceDiv, Nat.reduceBEq, RH, e_h1, e_h2, h16', h17', h18', h19']
            refine J.eq ret_seq ?_
            conv => arg 1; simp (maxSteps := 1000000) (disch := first | assumption | decide | with_unfolding_all rfl | omega | (simp only [LN] <;> omega) | (simp only [RO, OF])) only [RR, RM, LN, TT, d37_at, ↓reduceIte, Nat.reduceEqDiff, Nat.reduceLT, Nat.reduceLeDiff, Nat.reduceAdd, Nat.reduceSub, Nat.reduceMul, Nat.reduceMod, Nat.reduceDiv, Nat.reduceBEq, RH, e_h1, e_h2, h16', h17', h18', h19']
            refine J.ite (fun h20 => ?_) (fun h20 => ?_)
            · have h20' : (x4.fneg == x5.fneg) = true := h20
              refine J.some ?_
              simp (maxSteps := 20000000) (disch := first | assumption | decide | with_unfolding_all rfl | omega | (simp only [LN] <;> omega) | (simp only [RO, OF])) only [RR, RM, LN, TT, d37_at, ↓reduceIte, Nat.reduceEqDiff, Nat.reduceLT, Nat.reduceLeDiff, Nat.reduceAdd, Nat.reduceSub, Nat.reduceMul, Nat.reduceMod, Nat.reduceDiv, Nat.reduceBEq, RH, e_h1, e_h2, h16', h17', h18', h19', h20', FF, LN, NN, NT]
            · have h20' : (x4.fneg == x5.fneg) = false := Bool.eq_false_iff.2 h20
              refine J.some ?_
              simp (maxSteps := 20000000) (disch := first | assumption | decide | with_unfolding_all rfl | omega | (simp only [LN] <;> omega) | (simp only [RO, OF])) only [RR, RM, LN, TT, d37_at, ↓reduceIte, Nat.reduceEqDiff, Nat.reduceLT, Nat.reduceLeDiff, Nat.reduceAdd, Nat.reduceSub, Nat.reduceMul, Nat.reduceMod, Nat.reduceDiv, Nat.reduceBEq, RH, e_h1, e_h2, h16', h17', h18', h19', h20', FF, LN, NN, NT]
          · have h19' : x5.finf = false := Bool.eq_false_iff.2 h19
            conv => arg 1; simp (maxSteps := 1000000) (disch := first | assumption | decide | with_unfolding_all rfl | omega | (simp only [LN] <;> omega) | (simp only [RO, OF])) only [RR, RM, LN, TT, d37_at, ↓reduceIte, Nat.reduceEqDiff, Nat.reduceLT, Nat.reduceLeDiff, Nat.reduceAdd, Nat.reduceSub, Nat.reduceMul, Nat.reduceMod, Nat.reduceDiv, Nat.reduceBEq, RH, e_h1, e_h2, h16', h17', h18', h19']
            refine J.eq ret_seq ?_
            refine J.some ?_
            simp (maxSteps := 20000000) (disch := first | assumption | decide | with_unfolding_all rfl | omega | (simp only [LN] <;> omega) | (simp only [RO, OF])) only [RR, RM, LN, TT, d37_at, ↓reduceIte, Nat.reduceEqDiff, Nat.reduceLT, Nat.reduceLeDiff, Nat.reduceAdd, Nat.reduceSub, Nat.reduceMul, Nat.reduceMod, Nat.reduceDiv, Nat.reduceBEq, RH, e_h1, e_h2, h16', h17', h18', h19', FF, LN, NN, NT]
        · have h18' : x4.finf = false := Bool.eq_false_iff.2 h18
          conv => arg 1; simp (maxSteps := 1000000) (disch := first | assumption | decide | with_unfolding_all rfl | omega | (simp only [LN] <;> omega) | (simp only [RO, OF])) only [RR, RM, LN, TT, d37_at, ↓reduceIte, Nat.reduceEqDiff, Nat.reduceLT, Nat.reduceLeDiff, Nat.reduceAdd, Nat.reduceSub, Nat.reduceMul, Nat.reduceMod, Nat.reduceDiv, Nat.reduceBEq, RH, e_h1, e_h2, h16', h17', h18']
          refine J.eq ret_seq ?_
          conv => arg 1; simp (maxSteps := 1000000) (disch := first | assumption | decide | with_unfolding_all rfl | omega | (simp only [LN] <;> omega) | (simp only [RO, OF])) only [RR, RM, LN, TT, d37_at, ↓reduceIte, Nat.reduceEqDiff, Nat.reduceLT, Nat.reduceLeDiff, Nat.reduceAdd, Nat.reduceSub, Nat.reduceMul, Nat.reduceMod, Nat.reduceDiv, Nat.reduceBEq, RH, e_h1, e_h2, h16', h17', h18']
          refine J.ite (fun h21 => ?_) (fun h21 => ?_)
          · have h21' : x5.finf = true := h21
            refine J.some ?_
            simp (maxSteps := 20000000) (disch := first | assumption | decide | with_unfolding_all rfl | omega | (simp only [LN] <;> omega) | (simp only [RO, OF])) only [RR, RM, LN, TT, d37_at, ↓reduceIte, Nat.reduceEqDiff, Nat.reduceLT, Nat.reduceLeDiff, Nat.reduceAdd, Nat.reduceSub, Nat.reduceMul, Nat.reduceMod, Nat.reduceDiv, Nat.reduceBEq, RH, e_h1, e_h2, h16', h17', h18', h21', FF, LN, NN, NT]
          · have h21' : x5.finf = false := Bool.eq_false_iff.2 h21
            conv => arg 1; simp (maxSteps := 1000000) (disch := first | assumption | decide | with_unfolding_all rfl | omega | (simp only [LN] <;> omega) | (simp only [RO, OF])) only [RR, RM, LN, TT, d37_at, ↓reduceIte, Nat.reduceEqDiff, Nat.reduceLT, Nat.reduceLeDiff, Nat.reduceAdd, Nat.reduceSub, Nat.reduceMul, Nat.reduceMod, Nat.reduceDiv, Nat.reduceBEq, RH, e_h1, e_h2, h16', h17', h18', h21']
            refine J.eq go_seq ?_
            conv => arg 1; simp (maxSteps := 1000000) (disch := first | assumption | decide | with_unfolding_all rfl | omega | (simp only [LN] <;> omega) | (simp only [RO, OF])) only [RR, RM, LN, TT, d37_at, ↓reduceIte, Nat.reduceEqDiff, Nat.reduceLT, Nat.reduceLeDiff, Nat.reduceAdd, Nat.reduceSub, Nat.reduceMul, Nat.reduceMod, Nat.reduceDiv, Nat.reduceBEq, RH, e_h1, e_h2, h16', h17', h18', h21']
            refine J.ite (fun h22 => ?_) (fun h22 => ?_)
            · have h22' := decide_eq_true h22
              conv => arg 1; simp (maxSteps := 1000000) (disch := first | assumption | decide | with_unfolding_all rfl | omega | (simp only [LN] <;> omega) | (simp only [RO, OF])) only [RR, RM, LN, TT, d37_at, ↓reduceIte, Nat.reduceEqDiff, Nat.reduceLT, Nat.reduceLeDiff, Nat.reduceAdd, Nat.reduceSub, Nat.reduceMul, Nat.reduceMod, Nat.reduceDiv, Nat.reduceBEq, RH, e_h1, e_h2, h16', h17', h18', h21', h22']
              refine J.eq ret_seq ?_
              conv => arg 1; simp (maxSteps := 1000000) (disch := first | assumption | decide | with_unfolding_all rfl | omega | (simp only [LN] <;> omega) | (simp only [RO, OF])) only [RR, RM, LN, TT, d37_at, ↓reduceIte, Nat.reduceEqDiff, Nat.reduceLT, Nat.reduceLeDiff, Nat.reduceAdd, Nat.reduceSub, Nat.reduceMul, Nat.reduceMod, Nat.reduceDiv, Nat.reduceBEq, RH, e_h1, e_h2, h16', h17', h18', h21', h22']
              refine J.ite (fun h23 => ?_) (fun h23 => ?_)
              · have h23' := decide_eq_true h23
                conv => arg 1; simp (maxSteps := 1000000) (disch := first | assumption | decide | with_unfolding_all rfl | omega | (simp only [LN] <;> omega) | (simp only [RO, OF])) only [RR, RM, LN, TT, d37_at, ↓reduceIte, Nat.reduceEqDiff, Nat.reduceLT, Nat.reduceLeDiff, Nat.reduceAdd, Nat.reduceSub, Nat.reduceMul, Nat.reduceMod, Nat.reduceDiv, Nat.reduceBEq, RH, e_h1, e_h2, h16', h17', h18', h21', h22', h23']
                refine J.eq go_seq ?_
                conv => arg 1; simp (maxSteps := 1000000) (disch := first | assumption | decide | with_unfolding_all rfl | omega | (simp only [LN] <;> omega) | (simp only [RO, OF])) only [RR, RM, LN, TT, d37_at, ↓reduceIte, Nat.reduceEqDiff, Nat.reduceLT, Nat.reduceLeDiff, Nat.reduceAdd, Nat.reduceSub, Nat.reduceMul, Nat.reduceMod, Nat.reduceDiv, Nat.reduceBEq, RH, e_h1, e_h2, h16', h17', h18', h21', h22', h23']
                refine J.ite (fun h24 => ?_) (fun h24 => ?_)
                · have h24' := decide_eq_true h24
                  refine J.some ?_
                  simp (maxSteps := 20000000) (disch := first | assumption | decide | with_unfolding_all rfl | omega | (simp only [LN] <;> omega) | (simp only [RO, OF])) only [RR, RM, LN, TT, d37_at, ↓reduceIte, Nat.reduceEqDiff, Nat.reduceLT, Nat.reduceLeDiff, Nat.reduceAdd, Nat.reduceSub, Nat.reduceMul, Nat.reduceMod, Nat.reduceDiv, Nat.reduceBEq, RH, e_h1, e_h2, h16', h17', h18', h21', h22', h23', h24', FF, LN, NN, NT]
                · have h24' := decide_eq_false h24
                  conv => arg 1; simp (maxSteps := 1000000) (disch := first | assumption | decide | with_unfolding_all rfl | omega | (simp only [LN] <;> omega) | (simp only [RO, OF])) only [RR, RM, LN, TT, d37_at, ↓reduceIte, Nat.reduceEqDiff, Nat.reduceLT, Nat.reduceLeDiff, Nat.reduceAdd, Nat.reduceSub, Nat.reduceMul, Nat.reduceMod, Nat.reduceDiv, Nat.reduceBEq, RH, e_h1, e_h2, h16', h17', h18', h21', h22', h23', h24']
                  refine J.eq ret_seq ?_
                  refine J.bind fun x21 h25 => ?_
                  have e_h25 := H69_0 _ _ h25
                  try simp only [NN, NT, LN] at e_h25
                  refine J.some ?_
                  simp (maxSteps := 20000000) (disch := first | assumption | decide | with_unfolding_all rfl | omega | (simp only [LN] <;> omega) | (simp only [RO, OF])) only [RR, RM, LN, TT, d37_at, ↓reduceIte, Nat.reduceEqDiff, Nat.reduceLT, Nat.reduceLeDiff, Nat.reduceAdd, Nat.reduceSub, Nat.reduceMul, Nat.reduceMod, Nat.reduceDiv, Nat.reduceBEq, RH, e_h1, e_h2, h16', h17', h18', h21', h22', h23', h24', e_h25, FF, LN, NN, NT]
              · have h23' := decide_eq_false h23
                conv => arg 1; simp (maxSteps := 1000000) (disch := first | assumption | decide | with_unfolding_all rfl | omega | (simp only [LN] <;> omega) | (simp only [RO, OF])) only [RR, RM, LN, TT, d37_at, ↓reduceIte, Nat.reduceEqDiff, Nat.reduceLT, Nat.reduceLeDiff, Nat.reduceAdd, Nat.reduceSub, Nat.reduceMul, Nat.reduceMod, Nat.reduceDiv, Nat.reduceBEq, RH, e_h1, e_h2, h16', h17', h18', h21', h22', h23']
                refine J.jmp (t := ()) hj1 ?_ ?_
                · first | rfl | (simp only [LN, NN, NT])
                · first | (simp (disch := first | assumption | decide | with_unfolding_all rfl | omega | (simp only [LN] <;> omega) | (simp only [RO, OF])) only [RR, ↓reduceIte, Nat.reduceEqDiff, Nat.reduceLT, Nat.reduceLeDiff, Nat.reduceAdd, Nat.reduceSub, Nat.reduceMul, Nat.reduceMod, Nat.reduceDiv, Nat.reduceBEq, LN, NN, NT]; done) | (simp (disch := first | assumption | decide | with_unfolding_all rfl | omega | (simp only [LN] <;> omega) | (simp only [RO, OF])) only [RR, ↓reduceIte, Nat.reduceEqDiff, Nat.reduceLT, Nat.reduceLeDiff, Nat.reduceAdd, Nat.reduceSub, Nat.reduceMul, Nat.reduceMod, Nat.reduceDiv, Nat.reduceBEq, LN, fm_app, NN, NT]; done) | rfl
            · have h22' := decide_eq_false h22
              conv => arg 1; simp (maxSteps := 1000000) (disch := first | assumption | decide | with_unfolding_all rfl | omega | (simp only [LN] <;> omega) | (simp only [RO, OF])) only [RR, RM, LN, TT, d37_at, ↓reduceIte, Nat.reduceEqDiff, Nat.reduceLT, Nat.reduceLeDiff, Nat.reduceAdd, Nat.reduceSub, Nat.reduceMul, Nat.reduceMod, Nat.reduceDiv, Nat.reduceBEq, RH, e_h1, e_h2, h16', h17', h18', h21', h22']
              refine J.eq ret_seq ?_
              conv => arg 1; simp (maxSteps := 1000000) (disch := first | assumption | decide | with_unfolding_all rfl | omega | (simp only [LN] <;> omega) | (simp only [RO, OF])) only [RR, RM, LN, TT, d37_at, ↓reduceIte, Nat.reduceEqDiff, Nat.reduceLT, Nat.reduceLeDiff, Nat.reduceAdd, Nat.reduceSub, Nat.reduceMul, Nat.reduceMod, Nat.reduceDiv, Nat.reduceBEq, RH, e_h1, e_h2, h16', h17', h18', h21', h22']
              refine J.jmp (t := ()) hj1 ?_ ?_
              · first | rfl | (simp only [LN, NN, NT])
              · first | (simp (disch := first | assumption | decide | with_unfolding_all rfl | omega | (simp only [LN] <;> omega) | (simp only [RO, OF])) only [RR, ↓reduceIte, Nat.reduceEqDiff, Nat.reduceLT, Nat.reduceLeDiff, Nat.reduceAdd, Nat.reduceSub, Nat.reduceMul, Nat.reduceMod, Nat.reduceDiv, Nat.reduceBEq, LN, NN, NT]; done) | (simp (disch := first | assumption | decide | with_unfolding_all rfl | omega | (simp only [LN] <;> omega) | (simp only [RO, OF])) only [RR, ↓reduceIte, Nat.reduceEqDiff, Nat.reduceLT, Nat.reduceLeDiff, Nat.reduceAdd, Nat.reduceSub, Nat.reduceMul, Nat.reduceMod, Nat.reduceDiv, Nat.reduceBEq, LN, fm_app, NN, NT]; done) | rfl
noncomputable def t37 (fu : Nat) : CallP := orE 68 (mkC (fun (t : Int) => ([.v (.int .u32 t)] : List AV)) (fun t => soft_open fu t) e68) (orE 69 (mkC (fun (t : Int) => ([.v (.int .i64 t)] : List AV)) (fun t => soft_nought fu t) e69) (orE 70 (mkC (fun (t : Int × Bool × Int × Int × Bool) => ([.v (.int .i64 t.1), .v (.bool t.2.1), .v (.int .i64 t.2.2.1), .v (.int .u64 t.2.2.2.1), .v (.bool t.2.2.2.2)] : List AV)) (fun t => soft_Round fu t.1 t.2.1 t.2.2.1 t.2.2.2.1 t.2.2.2.2) e70) (noP)))
theorem t37_ok (fu : Nat) : CpOK Tryz.prog (t37 fu ) := orE_ok (orE_ok (orE_ok (noP_ok) (mkC_ok (fun t b h => ok70 fu t.1 t.2.1 t.2.2.1 t.2.2.2.1 t.2.2.2.2  b h))) (mkC_ok (fun t b h => ok69 fu t  b h))) (mkC_ok (fun t b h => ok68 fu t  b h))
theorem ok37 (fu : Nat) (x1 : Int) (x2 : Int) (x3 : Int) (r) (h : soft_AddBy fu x1 x2 x3 = some r) : PureOK Tryz.prog 37 [.v (.int .i64 x1), .v (.int .u32 x2), .v (.int .u32 x3)] (e37 r) :=
  pure_J mixed (cp := t37 fu ) (t37_ok fu  ) noI_ok i37 (w37 _ fu x1 x2 x3  (fun a0 r h => orE_hit (mkC_at (a := a0) (by intro a b h; first | (exact rfl) | (simp only [INJ, IJ] at h; first | exact h | (simp_all [Prod.ext_iff]) )) h)) (fun a0 r h => orE_miss (by decide) (orE_hit (mkC_at (a := a0) (by intro a b h; first | (exact rfl) | (simp only [INJ, IJ] at h; first | exact h | (simp_all [Prod.ext_iff]) )) h))) (fun a0 a1 a2 a3 a4 r h => orE_miss (by decide) (orE_miss (by decide) (orE_hit (mkC_at (a := (a0, a1, a2, a3, a4)) (by intro a b h; first | (exact rfl) | (simp only [INJ, IJ] at h; first | exact h | (simp_all [Prod.ext_iff]) )) h))))) h
/-! 17: lattice/soft.Add -/
def d17 : List (Nat × List Nat) := [(0, [4]), (0, []), (0, [0, 1, 5, 6, 7])]
def d17_at := And.intro (show d17.getD 0 (0, []) = (0, [4]) from rfl) <| And.intro (show d17.getD 1 (0, []) = (0, []) from rfl) <| (show d17.getD 2 (0, []) = (0, [0, 1, 5, 6, 7]) from rfl)
theorem i17 : finfo Tryz.prog 17 d17 = some ⟨bodyOf Tryz.f17, [.tmp 4], [24]⟩ := finfo_at Tryz.func17 rfl (by kernel_rfl) (by kernel_rfl)
def e17 : Int → AV := fun r => .v (.int .u32 r)
set_option maxHeartbeats 20000000 in
theorem w17 (cp : CallP) (fu : Nat) (x1 : Int) (x2 : Int) (H37_0 : ∀ (a0 : Int) (a1 : Int) (a2 : Int) r, soft_AddBy fu a0 a1 a2 = some r → cp 37 [.v (.int .i64 a0), .v (.int .u32 a1), .v (.int .u32 a2)] = some (.v (.int .u32 r))) : J (go Tryz.prog noC cp noI 0 [] d17 fu (fin Tryz.prog [.tmp 4] [24]) (bodyOf Tryz.f17) (initE 0 [.v (.int .u32 x1), .v (.int .u32 x2)]) [] []) (soft_Add fu x1 x2) e17 := by
  unfold soft_Add e17
  refine J.bind fun x3 h1 => ?_
  have e_h1 := H37_0 _ _ _ _ h1
  try simp only [NN, NT, LN] at e_h1
  refine J.some ?_
  simp (maxSteps := 20000000) (disch := first | assumption | decide | with_unfolding_all rfl | omega | (simp only [LN] <;> omega) | (simp only [RO, OF])) only [bodyOf, Tryz.f17, RR, RM, LN, TT, d17_at, ↓reduceIte, Nat.reduceEqDiff, Nat.reduceLT, Nat.reduceLeDiff, Nat.reduceAdd, Nat.reduceSub, Nat.reduceMul, Nat.reduceMod, Nat.reduceDiv, Nat.reduceBEq, RH, e_h1, FF, LN, NN, NT]
noncomputable def t17 (fu : Nat) : CallP := orE 37 (mkC (fun (t : Int × Int × Int) => ([.v (.int .i64 t.1), .v (.int .u32 t.2.1), .v (.int .u32 t.2.2)] : List AV)) (fun t => soft_AddBy fu t.1 t.2.1 t.2.2) e37) (noP)
theorem t17_ok (fu : Nat) : CpOK Tryz.prog (t17 fu ) := orE_ok (noP_ok) (mkC_ok (fun t b h => ok37 fu t.1 t.2.1 t.2.2  b h))
theorem ok17 (fu : Nat) (x1 : Int) (x2 : Int) (r) (h : soft_Add fu x1 x2 = some r) : PureOK Tryz.prog 17 [.v (.int .u32 x1), .v (.int .u32 x2)] (e17 r) :=
  pure_J mixed (cp := t17 fu ) (t17_ok fu  ) noI_ok i17 (w17 _ fu x1 x2  (fun a0 a1 a2 r h => orE_hit (mkC_at (a := (a0, a1, a2)) (by intro a b h; first | (exact rfl) | (simp only [INJ, IJ] at h; first | exact h | (simp_all [Prod.ext_iff]) )) h))) h
/-! 18: (lattice/quick.lanes).whole -/
def d18 : List (Nat × List Nat) := [(0, [0, 2]), (0, []), (12, [1, 3, 4, 5, 6, 7, 8, 9, 10, 11, 12, 13])]
def d18_at := And.intro (show d18.getD 0 (0, []) = (0, [0, 2]) from rfl) <| And.intro (show d18.getD 1 (0, []) = (0, []) from rfl) <| (show d18.getD 2 (0, []) = (12, [1, 3, 4, 5, 6, 7, 8, 9, 10, 11, 12, 13]) from rfl)
noncomputable def b18 : Code := bodyOf Tryz.f18
theorem go_b18 {C : Cfg} {cp : CallP} {ci : CallI} {lvl : Nat} {prot : List Id} {D : List (Nat × List Nat)} {n : Nat} {K : KK} {e : Env} {h : Heap} {fs : List Fr} : go Tryz.prog C cp ci lvl prot D n K b18 e h fs = go Tryz.prog C cp ci lvl prot D n K (bodyOf Tryz.f18) e h fs := rfl
theorem i18 : finfo Tryz.prog 18 d18 = some ⟨b18, [.tmp 2], [24]⟩ := finfo_at Tryz.func18 rfl (by kernel_rfl) (by kernel_rfl)
/-! 6: lattice/quick.Sum -/
def d6 : List (Nat × List Nat) := [(0, [2]), (0, [6, 7, 8]), (0, []), (0, []), (0, [0]), (0, []), (0, []), (0, []), (0, [10, 11, 12]), (0, []), (0, [4, 5, 13, 14, 15, 16, 17, 18, 19, 20, 21]), (0, []), (0, [22]), (0, []), (0, [3, 23, 24])]
def d6_at := And.intro (show d6.getD 0 (0, []) = (0, [2]) from rfl) <| And.intro (show d6.getD 1 (0, []) = (0, [6, 7, 8]) from rfl) <| And.intro (show d6.getD 2 (0, []) = (0, []) from rfl) <| And.intro (show d6.getD 3 (0, []) = (0, []) from rfl) <| And.intro (show d6.getD 4 (0, []) = (0, [0]) from rfl) <| And.intro (show d6.getD 5 (0, []) = (0, []) from rfl) <| And.intro (show d6.getD 6 (0, []) = (0, []) from rfl) <| And.intro (show d6.getD 7 (0, []) = (0, []) from rfl) <| And.intro (show d6.getD 8 (0, []) = (0, [10, 11, 12]) from rfl) <| And.intro (show d6.getD 9 (0, []) = (0, []) from rfl) <| And.intro (show d6.getD 10 (0, []) = (0, [4, 5, 13, 14, 15, 16, 17, 18, 19, 20, 21]) from rfl) <| And.intro (show d6.getD 11 (0, []) = (0, []) from rfl) <| And.intro (show d6.getD 12 (0, []) = (0, [22]) from rfl) <| And.intro (show d6.getD 13 (0, []) = (0, []) from rfl) <| (show d6.getD 14 (0, []) = (0, [3, 23, 24]) from rfl)
theorem i6 : finfo Tryz.prog 6 d6 = some ⟨bodyOf Tryz.f6, [.tmp 2], [24]⟩ := finfo_at Tryz.func6 rfl (by kernel_rfl) (by kernel_rfl)
def e6 : Int → AV := fun r => .v (.int .u32 r)
set_option maxHeartbeats 20000000 in
theorem w6 (cp : CallP) (fu : Nat) (x1 : List Int) (H17_0 : ∀ (a0 : Int) (a1 : Int) r, soft_Add fu a0 a1 = some r → cp 17 [.v (.int .u32 a0), .v (.int .u32 a1)] = some (.v (.int .u32 r))) : J (go Tryz.prog (inlC [18]) cp (ciE Tryz.prog (inlC [18]) cp noI fu 18 d18 ⟨b18, [.tmp 2], [24]⟩ noI) 0 [] d6 fu (fin Tryz.prog [.tmp 2] [24]) (bodyOf Tryz.f6) (initE 0 [.arr x1.length (lm (ik .u32) x1)]) [] []) (quick_Sum fu x1) e6 := by
  unfold quick_Sum e6
  conv => arg 1; simp (maxSteps := 1000000) (disch := first | assumption | decide | with_unfolding_all rfl | omega | (simp only [LN] <;> omega) | (simp only [RO, OF])) only [bodyOf, Tryz.f6, RR, RM, LN, TT, d6_at, ↓reduceIte, Nat.reduceEqDiff, Nat.reduceLT, Nat.reduceLeDiff, Nat.reduceAdd, Nat.reduceSub, Nat.reduceMul, Nat.reduceMod, Nat.reduceDiv, Nat.reduceBEq, RI, RIk, initE, RH]
  refine J.joinS (fun (t : Int × Int × Int × Int) => ([(3, .ptr (0, 3, 0) 0 0)], [((0, 3, 0), .bx true ([.v (.int .u32 t.1), .v (.int .u32 t.2.1), .v (.int .u32 t.2.2.1), .v (.int .u32 t.2.2.2)]))])) (fun t => quick_Sum_k1 fu t.1 t.2.1 t.2.2.1 t.2.2.2) ?_ (fun hj1 => ?_)
  · rintro ⟨x2, x3, x4, x5⟩
    show J _ (quick_Sum_k1 fu x2 x3 x4 x5) _
    unfold quick_Sum_k1
    refine J.bind fun x6 h1 => ?_
    have e_h1 := H17_0 _ _ _ h1
    try simp only [NN, NT, LN] at e_h1
    refine J.bind fun x7 h2 => ?_
    have e_h2 := H17_0 _ _ _ h2
    try simp only [NN, NT, LN] at e_h2
    refine J.bind fun x8 h3 => ?_
    have e_h3 := H17_0 _ _ _ h3
    try simp only [NN, NT, LN] at e_h3
    refine J.some ?_
    simp (maxSteps := 20000000) (disch := first | assumption | decide | with_unfolding_all rfl | omega | (simp only [LN] <;> omega) | (simp only [RO, OF])) only [RR, RM, LN, TT, d6_at, ↓reduceIte, Nat.reduceEqDiff, Nat.reduceLT, Nat.reduceLeDiff, Nat.reduceAdd, Nat.reduceSub, Nat.reduceMul, Nat.reduceMod, Nat.reduceDiv, Nat.reduceBEq, go_b18, bodyOf, Tryz.f18, d18_at, RI, RIk, initE, RH, e_h1, e_h2, e_h3, FF, LN, NN, NT]
  · conv => arg 1; simp (maxSteps := 1000000) (disch := first | assumption | decide | with_unfolding_all rfl | omega | (simp only [LN] <;> omega) | (simp only [RO, OF])) only [RR, RM, LN, TT, d6_at, ↓reduceIte, Nat.reduceEqDiff, Nat.reduceLT, Nat.reduceLeDiff, Nat.reduceAdd, Nat.reduceSub, Nat.reduceMul, Nat.reduceMod, Nat.reduceDiv, Nat.reduceBEq, go_b18, bodyOf, Tryz.f18, d18_at, RI, RIk, initE, RH]
    unfold quick_Sum_W1
    refine J.loop (fun (s : Int × Int × Int × Int × Int) => ([(3, .ptr (0, 3, 0) 0 0), (6, .arr x1.length (lm (ik .u32) x1)), (7, .v (.int .i64 (x1.length : Int))), (8, .v (.int .i64 s.2.2.2.2))], [((0, 3, 0), .bx true ([.v (.int .u32 s.1), .v (.int .u32 s.2.1), .v (.int .u32 s.2.2.1), .v (.int .u32 s.2.2.2.1)]))])) (fun next s => quick_Sum_L1 fu x1 (fun x14 x15 x16 x17 x18 => next (x14, x15, x16, x17, x18)) s.1 s.2.1 s.2.2.1 s.2.2.2.1 s.2.2.2.2) (s0 := (0, 0, 0, 0, 0)) ?_ ?_ ?_
    · first | rfl | (simp only [LN, NN, NT])
    · first | (simp (disch := first | assumption | decide | with_unfolding_all rfl | omega | (simp only [LN] <;> omega) | (simp only [RO, OF])) only [RR, ↓reduceIte, Nat.reduceEqDiff, Nat.reduceLT, Nat.reduceLeDiff, Nat.reduceAdd, Nat.reduceSub, Nat.reduceMul, Nat.reduceMod, Nat.reduceDiv, Nat.reduceBEq, LN, NN, NT]; done) | (simp (disch := first | assumption | decide | with_unfolding_all rfl | omega | (simp only [LN] <;> omega) | (simp only [RO, OF])) only [RR, ↓reduceIte, Nat.reduceEqDiff, Nat.reduceLT, Nat.reduceLeDiff, Nat.reduceAdd, Nat.reduceSub, Nat.reduceMul, Nat.reduceMod, Nat.reduceDiv, Nat.reduceBEq, LN, fm_app, NN, NT]; done) | rfl
    rintro next k1 hn1 ⟨x14, x15, x16, x17, x18⟩
    let nx1 : Int → Int → Int → Int → Int → Option Int := (fun x14 x15 x16 x17 x18 => next (x14, x15, x16, x17, x18))
    show J _ (quick_Sum_L1 fu x1 nx1 x14 x15 x16 x17 x18) _
    unfold quick_Sum_L1
    conv => arg 1; simp (maxSteps := 1000000) (disch := first | assumption | decide | with_unfolding_all rfl | omega | (simp only [LN] <;> omega) | (simp only [RO, OF])) only [RR, RM, LN, TT, d6_at, ↓reduceIte, Nat.reduceEqDiff, Nat.reduceLT, Nat.reduceLeDiff, Nat.reduceAdd, Nat.reduceSub, Nat.reduceMul, Nat.reduceMod, Nat.reduceDiv, Nat.reduceBEq, go_b18, bodyOf, Tryz.f18, d18_at, RI, RIk, initE, RH]
    refine J.eq go_seq ?_
    conv => arg 1; simp (maxSteps := 1000000) (disch := first | assumption | decide | with_unfolding_all rfl | omega | (simp only [LN] <;> omega) | (simp only [RO, OF])) only [RR, RM, LN, TT, d6_at, ↓reduceIte, Nat.reduceEqDiff, Nat.reduceLT, Nat.reduceLeDiff, Nat.reduceAdd, Nat.reduceSub, Nat.reduceMul, Nat.reduceMod, Nat.reduceDiv, Nat.reduceBEq, go_b18, bodyOf, Tryz.f18, d18_at, RI, RIk, initE, RH]
    refine J.ite (fun h4 => ?_) (fun h4 => ?_)
    · have h4' := decide_eq_true h4
      have h4'' : decide ((x1.length : Int) ≤ x18) = false := decide_eq_false (by omega)
      conv => arg 1; simp (maxSteps := 1000000) (disch := first | assumption | decide | with_unfolding_all rfl | omega | (simp only [LN] <;> omega) | (simp only [RO, OF])) only [RR, RM, LN, TT, d6_at, ↓reduceIte, Nat.reduceEqDiff, Nat.reduceLT, Nat.reduceLeDiff, Nat.reduceAdd, Nat.reduceSub, Nat.reduceMul, Nat.reduceMod, Nat.reduceDiv, Nat.reduceBEq, go_b18, bodyOf, Tryz.f18, d18_at, RI, RIk, initE, RH, h4'', h4']
      refine J.eq ret_seq ?_
      refine J.eq go_seq ?_
      refine J.at fun x24 h5 h6 h7 => ?_
      conv => arg 1; simp (maxSteps := 1000000) (disch := first | assumption | decide | with_unfolding_all rfl | omega | (simp only [LN] <;> omega) | (simp only [RO, OF])) only [RR, RM, LN, TT, d6_at, ↓reduceIte, Nat.reduceEqDiff, Nat.reduceLT, Nat.reduceLeDiff, Nat.reduceAdd, Nat.reduceSub, Nat.reduceMul, Nat.reduceMod, Nat.reduceDiv, Nat.reduceBEq, go_b18, bodyOf, Tryz.f18, d18_at, RI, RIk, initE, RH, h4'', h4', lm_ik h7]
      refine J.ite (fun h8 => ?_) (fun h8 => ?_)
      · have h8' := decide_eq_true h8
        refine J.bind fun x25 h9 => ?_
        have e_h9 := H17_0 _ _ _ h9
        try simp only [NN, NT, LN] at e_h9
        conv => arg 1; simp (maxSteps := 1000000) (disch := first | assumption | decide | with_unfolding_all rfl | omega | (simp only [LN] <;> omega) | (simp only [RO, OF])) only [RR, RM, LN, TT, d6_at, ↓reduceIte, Nat.reduceEqDiff, Nat.reduceLT, Nat.reduceLeDiff, Nat.reduceAdd, Nat.reduceSub, Nat.reduceMul, Nat.reduceMod, Nat.reduceDiv, Nat.reduceBEq, go_b18, bodyOf, Tryz.f18, d18_at, RI, RIk, initE, RH, h4'', h4', lm_ik h7, h8', h8, e_h9]
        refine J.eq ret_seq ?_
        conv => arg 1; simp (maxSteps := 1000000) (disch := first | assumption | decide | with_unfolding_all rfl | omega | (simp only [LN] <;> omega) | (simp only [RO, OF])) only [RR, RM, LN, TT, d6_at, ↓reduceIte, Nat.reduceEqDiff, Nat.reduceLT, Nat.reduceLeDiff, Nat.reduceAdd, Nat.reduceSub, Nat.reduceMul, Nat.reduceMod, Nat.reduceDiv, Nat.reduceBEq, go_b18, bodyOf, Tryz.f18, d18_at, RI, RIk, initE, RH, h4'', h4', lm_ik h7, h8', h8, e_h9]
        refine J.next (s := (x25, x15, x16, x17, wk .i64 (x18 + 1))) hn1 ?_ ?_
        · first | rfl | (simp only [LN, NN, NT])
        · first | (simp (disch := first | assumption | decide | with_unfolding_all rfl | omega | (simp only [LN] <;> omega) | (simp only [RO, OF])) only [RR, ↓reduceIte, Nat.reduceEqDiff, Nat.reduceLT, Nat.reduceLeDiff, Nat.reduceAdd, Nat.reduceSub, Nat.reduceMul, Nat.reduceMod, Nat.reduceDiv, Nat.reduceBEq, LN, NN, NT]; done) | (simp (disch := first | assumption | decide | with_unfolding_all rfl | omega | (simp only [LN] <;> omega) | (simp only [RO, OF])) only [RR, ↓reduceIte, Nat.reduceEqDiff, Nat.reduceLT, Nat.reduceLeDiff, Nat.reduceAdd, Nat.reduceSub, Nat.reduceMul, Nat.reduceMod, Nat.reduceDiv, Nat.reduceBEq, LN, fm_app, NN, NT]; done) | rfl
      · have h8' := decide_eq_false h8
        conv => arg 1; simp (maxSteps := 1000000) (disch := first | assumption | decide | with_unfolding_all rfl | omega | (simp only [LN] <;> omega) | (simp only [RO, OF])) only [RR, RM, LN, TT, d6_at, ↓reduceIte, Nat.reduceEqDiff, Nat.reduceLT, Nat.reduceLeDiff, Nat.reduceAdd, Nat.reduceSub, Nat.reduceMul, Nat.reduceMod, Nat.reduceDiv, Nat.reduceBEq, go_b18, bodyOf, Tryz.f18, d18_at, RI, RIk, initE, RH, h4'', h4', lm_ik h7, h8']
        refine J.ite (fun h10 => ?_) (fun h10 => ?_)
        · have h10' := decide_eq_true h10
          refine J.bind fun x26 h11 => ?_
          have e_h11 := H17_0 _ _ _ h11
          try simp only [NN, NT, LN] at e_h11
          conv => arg 1; simp (maxSteps := 1000000) (disch := first | assumption | decide | with_unfolding_all rfl | omega | (simp only [LN] <;> omega) | (simp only [RO, OF])) only [RR, RM, LN, TT, d6_at, ↓reduceIte, Nat.reduceEqDiff, Nat.reduceLT, Nat.reduceLeDiff, Nat.reduceAdd, Nat.reduceSub, Nat.reduceMul, Nat.reduceMod, Nat.reduceDiv, Nat.reduceBEq, go_b18, bodyOf, Tryz.f18, d18_at, RI, RIk, initE, RH, h4'', h4', lm_ik h7, h8', h10', h10, e_h11]
          refine J.eq ret_seq ?_
          conv => arg 1; simp (maxSteps := 1000000) (disch := first | assumption | decide | with_unfolding_all rfl | omega | (simp only [LN] <;> omega) | (simp only [RO, OF])) only [RR, RM, LN, TT, d6_at, ↓reduceIte, Nat.reduceEqDiff, Nat.reduceLT, Nat.reduceLeDiff, Nat.reduceAdd, Nat.reduceSub, Nat.reduceMul, Nat.reduceMod, Nat.reduceDiv, Nat.reduceBEq, go_b18, bodyOf, Tryz.f18, d18_at, RI, RIk, initE, RH, h4'', h4', lm_ik h7, h8', h10', h10, e_h11]
          refine J.next (s := (x14, x26, x16, x17, wk .i64 (x18 + 1))) hn1 ?_ ?_
          · first | rfl | (simp only [LN, NN, NT])
          · first | (simp (disch := first | assumption | decide | with_unfolding_all rfl | omega | (simp only [LN] <;> omega) | (simp only [RO, OF])) only [RR, ↓reduceIte, Nat.reduceEqDiff, Nat.reduceLT, Nat.reduceLeDiff, Nat.reduceAdd, Nat.reduceSub, Nat.reduceMul, Nat.reduceMod, Nat.reduceDiv, Nat.reduceBEq, LN, NN, NT]; done) | (simp (disch := first | assumption | decide | with_unfolding_all rfl | omega | (simp only [LN] <;> omega) | (simp only [RO, OF])) only [RR, ↓reduceIte, Nat.reduceEqDiff, Nat.reduceLT, Nat.reduceLeDiff, Nat.reduceAdd, Nat.reduceSub, Nat.reduceMul, Nat.reduceMod, Nat.reduceDiv, Nat.reduceBEq, LN, fm_app, NN, NT]; done) | rfl
        · have h10' := decide_eq_false h10
          conv => arg 1; simp (maxSteps := 1000000) (disch := first | assumption | decide | with_unfolding_all rfl | omega | (simp only [LN] <;> omega) | (simp only [RO, OF])) only [RR, RM, LN, TT, d6_at, ↓reduceIte, Nat.reduceEqDiff, Nat.reduceLT, Nat.reduceLeDiff, Nat.reduceAdd, Nat.reduceSub, Nat.reduceMul, Nat.reduceMod, Nat.reduceDiv, Nat.reduceBEq, go_b18, bodyOf, Tryz.f18, d18_at, RI, RIk, initE, RH, h4'', h4', lm_ik h7, h8', h10']
          refine J.ite (fun h12 => ?_) (fun h12 => ?_)
          · have h12' := decide_eq_true h12
            refine J.bind fun x27 h13 => ?_
            have e_h13 := H17_0 _ _ _ h13
            try simp only [NN, NT, LN] at e_h13
            conv => arg 1; simp (maxSteps := 1000000) (disch := first | assumption | decide | with_unfolding_all rfl | omega | (simp only [LN] <;> omega) | (simp only [RO, OF])) only [RR, RM, LN, TT, d6_at, ↓reduceIte, Nat.reduceEqDiff, Nat.reduceLT, Nat.reduceLeDiff, Nat.reduceAdd, Nat.reduceSub, Nat.reduceMul, Nat.reduceMod, Nat.reduceDiv, Nat.reduceBEq, go_b18, bodyOf, Tryz.f18, d18_at, RI, RIk, initE, RH, h4'', h4', lm_ik h7, h8', h10', h12', h12, e_h13]
            refine J.eq ret_seq ?_
            conv => arg 1; simp (maxSteps := 1000000) (disch := first | assumption | decide | with_unfolding_all rfl | omega | (simp only [LN] <;> omega) | (simp only [RO, OF])) only [RR, RM, LN, TT, d6_at, ↓reduceIte, Nat.reduceEqDiff, Nat.reduceLT, Nat.reduceLeDiff, Nat.reduceAdd, Nat.reduceSub, Nat.reduceMul, Nat.reduceMod, Nat.reduceDiv, Nat.reduceBEq, go_b18, bodyOf, Tryz.f18, d18_at, RI, RIk, initE, RH, h4'', h4', lm_ik h7, h8', h10', h12', h12, e_h13]
            refine J.next (s := (x14, x15, x27, x17, wk .i64 (x18 + 1))) hn1 ?_ ?_
            · first | rfl | (simp only [LN, NN, NT])
            · first | (simp (disch := first | assumption | decide | with_unfolding_all rfl | omega | (simp only [LN] <;> omega) | (simp only [RO, OF])) only [RR, ↓reduceIte, Nat.reduceEqDiff, Nat.reduceLT, Nat.reduceLeDiff, Nat.reduceAdd, Nat.reduceSub, Nat.reduceMul, Nat.reduceMod, Nat.reduceDiv, Nat.reduceBEq, LN, NN, NT]; done) | (simp (disch := first | assumption | decide | with_unfolding_all rfl | omega | (simp only [LN] <;> omega) | (simp only [RO, OF])) only [RR, ↓reduceIte, Nat.reduceEqDiff, Nat.reduceLT, Nat.reduceLeDiff, Nat.reduceAdd, Nat.reduceSub, Nat.reduceMul, Nat.reduceMod, Nat.reduceDiv, Nat.reduceBEq, LN, fm_app, NN, NT]; done) | rfl
          · have h12' := decide_eq_false h12
            conv => arg 1; simp (maxSteps := 1000000) (disch := first | assumption | decide | with_unfolding_all rfl | omega | (simp only [LN] <;> omega) | (simp only [RO, OF])) only [RR, RM, LN, TT, d6_at, ↓reduceIte, Nat.reduceEqDiff, Nat.reduceLT, Nat.reduceLeDiff, Nat.reduceAdd, Nat.reduceSub, Nat.reduceMul, Nat.reduceMod, Nat.reduceDiv, Nat.reduceBEq, go_b18, bodyOf, Tryz.f18, d18_at, RI, RIk, initE, RH, h4'', h4', lm_ik h7, h8', h10', h12']
            refine J.ite (fun h14 => ?_) (fun h14 => ?_)
            · have h14' := decide_eq_true h14
              refine J.bind fun x28 h15 => ?_
              have e_h15 := H17_0 _ _ _ h15
              try simp only [NN, NT, LN] at e_h15
              conv => arg 1; simp (maxSteps := 1000000) (disch := first | assumption | decide | with_unfolding_all rfl | omega | (simp only [LN] <;> omega) | (simp only [RO, OF])) only [RR, RM, LN, TT, d6_at, ↓reduceIte, Nat.reduceEqDiff, Nat.reduceLT, Nat.reduceLeDiff, Nat.reduceAdd, Nat.reduceSub, Nat.reduceMul, Nat.reduceMod, Nat.reduceDiv, Nat.reduceBEq, go_b18, bodyOf, Tryz.f18, d18_at, RI, RIk, initE, RH, h4'', h4', lm_ik h7, h8', h10', h12', h14', h14, e_h15]
              refine J.eq ret_seq ?_
              conv => arg 1; simp (maxSteps := 1000000) (disch := first | assumption | decide | with_unfolding_all rfl | omega | (simp only [LN] <;> omega) | (simp only [RO, OF])) only [RR, RM, LN, TT, d6_at, ↓reduceIte, Nat.reduceEqDiff, Nat.reduceLT, Nat.reduceLeDiff, Nat.reduceAdd, Nat.reduceSub, Nat.reduceMul, Nat.reduceMod, Nat.reduceDiv, Nat.reduceBEq, go_b18, bodyOf, Tryz.f18, d18_at, RI, RIk, initE, RH, h4'', h4', lm_ik h7, h8', h10', h12', h14', h14, e_h15]
              refine J.next (s := (x14, x15, x16, x28, wk .i64 (x18 + 1))) hn1 ?_ ?_
              · first | rfl | (simp only [LN, NN, NT])
              · first | (simp (disch := first | assumption | decide | with_unfolding_all rfl | omega | (simp only [LN] <;> omega) | (simp only [RO, OF])) only [RR, ↓reduceIte, Nat.reduceEqDiff, Nat.reduceLT, Nat.reduceLeDiff, Nat.reduceAdd, Nat.reduceSub, Nat.reduceMul, Nat.reduceMod, Nat.reduceDiv, Nat.reduceBEq, LN, NN, NT]; done) | (simp (disch := first | assumption | decide | with_unfolding_all rfl | omega | (simp only [LN] <;> omega) | (simp only [RO, OF])) only [RR, ↓reduceIte, Nat.reduceEqDiff, Nat.reduceLT, Nat.reduceLeDiff, Nat.reduceAdd, Nat.reduceSub, Nat.reduceMul, Nat.reduceMod, Nat.reduceDiv, Nat.reduceBEq, LN, fm_app, NN, NT]; done) | rfl
            · have h14' := decide_eq_false h14
              exact J.none
    · have h4' := decide_eq_false h4
      have h4'' : decide ((x1.length : Int) ≤ x18) = true := decide_eq_true (by omega)
      conv => arg 1; simp (maxSteps := 1000000) (disch := first | assumption | decide | with_unfolding_all rfl | omega | (simp only [LN] <;> omega) | (simp only [RO, OF])) only [RR, RM, LN, TT, d6_at, ↓reduceIte, Nat.reduceEqDiff, Nat.reduceLT, Nat.reduceLeDiff, Nat.reduceAdd, Nat.reduceSub, Nat.reduceMul, Nat.reduceMod, Nat.reduceDiv, Nat.reduceBEq, go_b18, bodyOf, Tryz.f18, d18_at, RI, RIk, initE, RH, h4'', h4']
      refine J.jmp (t := (x14, x15, x16, x17)) hj1 ?_ ?_
      · first | rfl | (simp only [LN, NN, NT])
      · first | (simp (disch := first | assumption | decide | with_unfolding_all rfl | omega | (simp only [LN] <;> omega) | (simp only [RO, OF])) only [RR, ↓reduceIte, Nat.reduceEqDiff, Nat.reduceLT, Nat.reduceLeDiff, Nat.reduceAdd, Nat.reduceSub, Nat.reduceMul, Nat.reduceMod, Nat.reduceDiv, Nat.reduceBEq, LN, NN, NT]; done) | (simp (disch := first | assumption | decide | with_unfolding_all rfl | omega | (simp only [LN] <;> omega) | (simp only [RO, OF])) only [RR, ↓reduceIte, Nat.reduceEqDiff, Nat.reduceLT, Nat.reduceLeDiff, Nat.reduceAdd, Nat.reduceSub, Nat.reduceMul, Nat.reduceMod, Nat.reduceDiv, Nat.reduceBEq, LN, fm_app, NN, NT]; done) | rfl
noncomputable def t6 (fu : Nat) : CallP := orE 17 (mkC (fun (t : Int × Int) => ([.v (.int .u32 t.1), .v (.int .u32 t.2)] : List AV)) (fun t => soft_Add fu t.1 t.2) e17) (noP)
theorem t6_ok (fu : Nat) : CpOK Tryz.prog (t6 fu ) := orE_ok (noP_ok) (mkC_ok (fun t b h => ok17 fu t.1 t.2  b h))
theorem ok6 (fu : Nat) (x1 : List Int) (r) (h : quick_Sum fu x1 = some r) : PureOK Tryz.prog 6 [.arr x1.length (lm (ik .u32) x1)] (e6 r) :=
  pure_J mixed (cp := t6 fu ) (t6_ok fu  ) (ciE_ok mixed (t6_ok fu  ) noI_ok i18 noI_ok) i6 (w6 _ fu x1  (fun a0 a1 r h => orE_hit (mkC_at (a := (a0, a1)) (by intro a b h; first | (exact rfl) | (simp only [INJ, IJ] at h; first | exact h | (simp_all [Prod.ext_iff]) )) h))) h
/-! 91: lattice/latticeref01.Abs -/
def d91 : List (Nat × List Nat) := [(0, [2]), (0, []), (0, [0, 3, 4])]
def d91_at := And.intro (show d91.getD 0 (0, []) = (0, [2]) from rfl) <| And.intro (show d91.getD 1 (0, []) = (0, []) from rfl) <| (show d91.getD 2 (0, []) = (0, [0, 3, 4]) from rfl)
theorem i91 : finfo Tryz.prog 91 d91 = some ⟨bodyOf Tryz.f91, [.tmp 2], [24]⟩ := finfo_at Tryz.func91 rfl (by kernel_rfl) (by kernel_rfl)
def e91 : Int → AV := fun r => .v (.int .u32 r)
set_option maxHeartbeats 20000000 in
theorem w91 (cp : CallP) (fu : Nat) (x1 : Int) : J (go Tryz.prog noC cp noI 0 [] d91 fu (fin Tryz.prog [.tmp 2] [24]) (bodyOf Tryz.f91) (initE 0 [.v (.int .u32 x1)]) [] []) (ref01_Abs fu x1) e91 := by
  unfold ref01_Abs e91
  refine J.some ?_
  simp (maxSteps := 20000000) (disch := first | assumption | decide | with_unfolding_all rfl | omega | (simp only [LN] <;> omega) | (simp only [RO, OF])) only [bodyOf, Tryz.f91, RR, RM, LN, TT, d91_at, ↓reduceIte, Nat.reduceEqDiff, Nat.reduceLT, Nat.reduceLeDiff, Nat.reduceAdd, Nat.reduceSub, Nat.reduceMul, Nat.reduceMod, Nat.reduceDiv, Nat.reduceBEq, RH, FF, LN, NN, NT]
noncomputable def t91 (fu : Nat) : CallP := noP
theorem t91_ok (fu : Nat) : CpOK Tryz.prog (t91 fu ) := noP_ok
theorem ok91 (fu : Nat) (x1 : Int) (r) (h : ref01_Abs fu x1 = some r) : PureOK Tryz.prog 91 [.v (.int .u32 x1)] (e91 r) :=
  pure_J mixed (cp := t91 fu ) (t91_ok fu  ) noI_ok i91 (w91 _ fu x1  ) h
/-! 90: lattice/latticeref01.IsNone -/
def d90 : List (Nat × List Nat) := [(0, [2]), (0, []), (0, [0, 3, 4, 5])]
def d90_at := And.intro (show d90.getD 0 (0, []) = (0, [2]) from rfl) <| And.intro (show d90.getD 1 (0, []) = (0, []) from rfl) <| (show d90.getD 2 (0, []) = (0, [0, 3, 4, 5]) from rfl)
theorem i90 : finfo Tryz.prog 90 d90 = some ⟨bodyOf Tryz.f90, [.tmp 2], [4]⟩ := finfo_at Tryz.func90 rfl (by kernel_rfl) (by kernel_rfl)
def e90 : Bool → AV := fun r => .v (.bool r)
set_option maxHeartbeats 20000000 in
theorem w90 (cp : CallP) (fu : Nat) (x1 : Int) (H91_0 : ∀ (a0 : Int) r, ref01_Abs fu a0 = some r → cp 91 [.v (.int .u32 a0)] = some (.v (.int .u32 r))) : J (go Tryz.prog noC cp noI 0 [] d90 fu (fin Tryz.prog [.tmp 2] [4]) (bodyOf Tryz.f90) (initE 0 [.v (.int .u32 x1)]) [] []) (ref01_IsNone fu x1) e90 := by
  unfold ref01_IsNone e90
  refine J.bind fun x2 h1 => ?_
  have e_h1 := H91_0 _ _ h1
  try simp only [NN, NT, LN] at e_h1
  refine J.some ?_
  simp (maxSteps := 20000000) (disch := first | assumption | decide | with_unfolding_all rfl | omega | (simp only [LN] <;> omega) | (simp only [RO, OF])) only [bodyOf, Tryz.f90, RR, RM, LN, TT, d90_at, ↓reduceIte, Nat.reduceEqDiff, Nat.reduceLT, Nat.reduceLeDiff, Nat.reduceAdd, Nat.reduceSub, Nat.reduceMul, Nat.reduceMod, Nat.reduceDiv, Nat.reduceBEq, RH, e_h1, FF, LN, NN, NT]
noncomputable def t90 (fu : Nat) : CallP := orE 91 (mkC (fun (t : Int) => ([.v (.int .u32 t)] : List AV)) (fun t => ref01_Abs fu t) e91) (noP)
theorem t90_ok (fu : Nat) : CpOK Tryz.prog (t90 fu ) := orE_ok (noP_ok) (mkC_ok (fun t b h => ok91 fu t  b h))
theorem ok90 (fu : Nat) (x1 : Int) (r) (h : ref01_IsNone fu x1 = some r) : PureOK Tryz.prog 90 [.v (.int .u32 x1)] (e90 r) :=
  pure_J mixed (cp := t90 fu ) (t90_ok fu  ) noI_ok i90 (w90 _ fu x1  (fun a0 r h => orE_hit (mkC_at (a := a0) (by intro a b h; first | (exact rfl) | (simp only [INJ, IJ] at h; first | exact h | (simp_all [Prod.ext_iff]) )) h))) h
/-! 167: lattice/latticeref01.trim -/
def d167 : List (Nat × List Nat) := [(0, [2]), (0, []), (0, [4, 5]), (0, []), (0, [6, 7, 8, 9, 10, 11, 12, 13, 14]), (0, []), (0, [16, 17]), (0, []), (0, [0, 3, 18, 19, 20])]
def d167_at := And.intro (show d167.getD 0 (0, []) = (0, [2]) from rfl) <| And.intro (show d167.getD 1 (0, []) = (0, []) from rfl) <| And.intro (show d167.getD 2 (0, []) = (0, [4, 5]) from rfl) <| And.intro (show d167.getD 3 (0, []) = (0, []) from rfl) <| And.intro (show d167.getD 4 (0, []) = (0, [6, 7, 8, 9, 10, 11, 12, 13, 14]) from rfl) <| And.intro (show d167.getD 5 (0, []) = (0, []) from rfl) <| And.intro (show d167.getD 6 (0, []) = (0, [16, 17]) from rfl) <| And.intro (show d167.getD 7 (0, []) = (0, []) from rfl) <| (show d167.getD 8 (0, []) = (0, [0, 3, 18, 19, 20]) from rfl)
theorem i167 : finfo Tryz.prog 167 d167 = some ⟨bodyOf Tryz.f167, [.tmp 2], [119]⟩ := finfo_at Tryz.func167 rfl (by kernel_rfl) (by kernel_rfl)
def e167 : (List Int) → AV := fun r => .arr r.length (lm (ik .u32) r)
set_option maxHeartbeats 20000000 in
theorem w167 (cp : CallP) (fu : Nat) (x1 : List Int) : J (go Tryz.prog noC cp noI 0 [] d167 fu (fin Tryz.prog [.tmp 2] [119]) (bodyOf Tryz.f167) (initE 0 [.arr x1.length (lm (ik .u32) x1)]) [] []) (ref01_trim fu x1) e167 := by
  unfold ref01_trim e167
  conv => arg 1; simp (maxSteps := 1000000) (disch := first | assumption | decide | with_unfolding_all rfl | omega | (simp only [LN] <;> omega) | (simp only [RO, OF])) only [bodyOf, Tryz.f167, RR, RM, LN, TT, d167_at, ↓reduceIte, Nat.reduceEqDiff, Nat.reduceLT, Nat.reduceLeDiff, Nat.reduceAdd, Nat.reduceSub, Nat.reduceMul, Nat.reduceMod, Nat.reduceDiv, Nat.reduceBEq, RH]
  refine J.eq go_seq ?_
  conv => arg 1; simp (maxSteps := 1000000) (disch := first | assumption | decide | with_unfolding_all rfl | omega | (simp only [LN] <;> omega) | (simp only [RO, OF])) only [RR, RM, LN, TT, d167_at, ↓reduceIte, Nat.reduceEqDiff, Nat.reduceLT, Nat.reduceLeDiff, Nat.reduceAdd, Nat.reduceSub, Nat.reduceMul, Nat.reduceMod, Nat.reduceDiv, Nat.reduceBEq, RH]
  unfold ref01_trim_W1
  refine J.loop (fun (s : Int) => ([(0, .arr x1.length (lm (ik .u32) x1)), (3, .v (.int .i64 s))], [])) (fun next s => ref01_trim_L1 fu x1 next s) (s0 := (x1.length : Int)) ?_ ?_ ?_
  · first | rfl | (simp only [LN, NN, NT])
  · first | (simp (disch := first | assumption | decide | with_unfolding_all rfl | omega | (simp only [LN] <;> omega) | (simp only [RO, OF])) only [RR, ↓reduceIte, Nat.reduceEqDiff, Nat.reduceLT, Nat.reduceLeDiff, Nat.reduceAdd, Nat.reduceSub, Nat.reduceMul, Nat.reduceMod, Nat.reduceDiv, Nat.reduceBEq, LN, NN, NT]; done) | (simp (disch := first | assumption | decide | with_unfolding_all rfl | omega | (simp only [LN] <;> omega) | (simp only [RO, OF])) only [RR, ↓reduceIte, Nat.reduceEqDiff, Nat.reduceLT, Nat.reduceLeDiff, Nat.reduceAdd, Nat.reduceSub, Nat.reduceMul, Nat.reduceMod, Nat.reduceDiv, Nat.reduceBEq, LN, fm_app, NN, NT]; done) | rfl
  rintro nx1 k1 hn1 x3
  show J _ (ref01_trim_L1 fu x1 nx1 x3) _
  unfold ref01_trim_L1
  refine J.eq go_seq ?_
  refine J.eq go_seq ?_
  conv => arg 1; simp (maxSteps := 1000000) (disch := first | assumption | decide | with_unfolding_all rfl | omega | (simp only [LN] <;> omega) | (simp only [RO, OF])) only [RR, RM, LN, TT, d167_at, ↓reduceIte, Nat.reduceEqDiff, Nat.reduceLT, Nat.reduceLeDiff, Nat.reduceAdd, Nat.reduceSub, Nat.reduceMul, Nat.reduceMod, Nat.reduceDiv, Nat.reduceBEq, RH]
  refine J.ite (fun h1 => ?_) (fun h1 => ?_)
  · have h1' := decide_eq_true h1
    have h1'' : decide (x3 ≤ 0) = false := decide_eq_false (by omega)
    refine J.at fun x5 h2 h3 h4 => ?_
    conv => arg 1; simp (maxSteps := 1000000) (disch := first | assumption | decide | with_unfolding_all rfl | omega | (simp only [LN] <;> omega) | (simp only [RO, OF])) only [RR, RM, LN, TT, d167_at, ↓reduceIte, Nat.reduceEqDiff, Nat.reduceLT, Nat.reduceLeDiff, Nat.reduceAdd, Nat.reduceSub, Nat.reduceMul, Nat.reduceMod, Nat.reduceDiv, Nat.reduceBEq, RH, h1'', h1', lm_ik h4]
    refine J.eq ret_seq ?_
    conv => arg 1; simp (maxSteps := 1000000) (disch := first | assumption | decide | with_unfolding_all rfl | omega | (simp only [LN] <;> omega) | (simp only [RO, OF])) only [RR, RM, LN, TT, d167_at, ↓reduceIte, Nat.reduceEqDiff, Nat.reduceLT, Nat.reduceLeDiff, Nat.reduceAdd, Nat.reduceSub, Nat.reduceMul, Nat.reduceMod, Nat.reduceDiv, Nat.reduceBEq, RH, h1'', h1', lm_ik h4]
    refine J.ite (fun h5 => ?_) (fun h5 => ?_)
    · have h5' := decide_eq_true h5
      conv => arg 1; simp (maxSteps := 1000000) (disch := first | assumption | decide | with_unfolding_all rfl | omega | (simp only [LN] <;> omega) | (simp only [RO, OF])) only [RR, RM, LN, TT, d167_at, ↓reduceIte, Nat.reduceEqDiff, Nat.reduceLT, Nat.reduceLeDiff, Nat.reduceAdd, Nat.reduceSub, Nat.reduceMul, Nat.reduceMod, Nat.reduceDiv, Nat.reduceBEq, RH, h1'', h1', lm_ik h4, h5']
      refine J.eq ret_seq ?_
      conv => arg 1; simp (maxSteps := 1000000) (disch := first | assumption | decide | with_unfolding_all rfl | omega | (simp only [LN] <;> omega) | (simp only [RO, OF])) only [RR, RM, LN, TT, d167_at, ↓reduceIte, Nat.reduceEqDiff, Nat.reduceLT, Nat.reduceLeDiff, Nat.reduceAdd, Nat.reduceSub, Nat.reduceMul, Nat.reduceMod, Nat.reduceDiv, Nat.reduceBEq, RH, h1'', h1', lm_ik h4, h5']
      refine J.next (s := wk .i64 (x3 - 1)) hn1 ?_ ?_
      · first | rfl | (simp only [LN, NN, NT])
      · first | (simp (disch := first | assumption | decide | with_unfolding_all rfl | omega | (simp only [LN] <;> omega) | (simp only [RO, OF])) only [RR, ↓reduceIte, Nat.reduceEqDiff, Nat.reduceLT, Nat.reduceLeDiff, Nat.reduceAdd, Nat.reduceSub, Nat.reduceMul, Nat.reduceMod, Nat.reduceDiv, Nat.reduceBEq, LN, NN, NT]; done) | (simp (disch := first | assumption | decide | with_unfolding_all rfl | omega | (simp only [LN] <;> omega) | (simp only [RO, OF])) only [RR, ↓reduceIte, Nat.reduceEqDiff, Nat.reduceLT, Nat.reduceLeDiff, Nat.reduceAdd, Nat.reduceSub, Nat.reduceMul, Nat.reduceMod, Nat.reduceDiv, Nat.reduceBEq, LN, fm_app, NN, NT]; done) | rfl
    · have h5' := decide_eq_false h5
      conv => arg 1; simp (maxSteps := 1000000) (disch := first | assumption | decide | with_unfolding_all rfl | omega | (simp only [LN] <;> omega) | (simp only [RO, OF])) only [RR, RM, LN, TT, d167_at, ↓reduceIte, Nat.reduceEqDiff, Nat.reduceLT, Nat.reduceLeDiff, Nat.reduceAdd, Nat.reduceSub, Nat.reduceMul, Nat.reduceMod, Nat.reduceDiv, Nat.reduceBEq, RH, h1'', h1', lm_ik h4, h5']
      refine J.eq ret_seq ?_
      refine J.chk fun h6 => ?_
      refine J.some ?_
      simp (maxSteps := 20000000) (disch := first | assumption | decide | with_unfolding_all rfl | omega | (simp only [LN] <;> omega) | (simp only [RO, OF])) only [RR, RM, LN, TT, d167_at, ↓reduceIte, Nat.reduceEqDiff, Nat.reduceLT, Nat.reduceLeDiff, Nat.reduceAdd, Nat.reduceSub, Nat.reduceMul, Nat.reduceMod, Nat.reduceDiv, Nat.reduceBEq, RH, h1'', h1', lm_ik h4, h5', FF, LN, NN, NT]
  · have h1' := decide_eq_false h1
    have h1'' : decide (x3 ≤ 0) = true := decide_eq_true (by omega)
    conv => arg 1; simp (maxSteps := 1000000) (disch := first | assumption | decide | with_unfolding_all rfl | omega | (simp only [LN] <;> omega) | (simp only [RO, OF])) only [RR, RM, LN, TT, d167_at, ↓reduceIte, Nat.reduceEqDiff, Nat.reduceLT, Nat.reduceLeDiff, Nat.reduceAdd, Nat.reduceSub, Nat.reduceMul, Nat.reduceMod, Nat.reduceDiv, Nat.reduceBEq, RH, h1'', h1']
    refine J.eq ret_seq ?_
    conv => arg 1; simp (maxSteps := 1000000) (disch := first | assumption | decide | with_unfolding_all rfl | omega | (simp only [LN] <;> omega) | (simp only [RO, OF])) only [RR, RM, LN, TT, d167_at, ↓reduceIte, Nat.reduceEqDiff, Nat.reduceLT, Nat.reduceLeDiff, Nat.reduceAdd, Nat.reduceSub, Nat.reduceMul, Nat.reduceMod, Nat.reduceDiv, Nat.reduceBEq, RH, h1'', h1']
    refine J.eq ret_seq ?_
    refine J.chk fun h7 => ?_
    refine J.some ?_
    simp (maxSteps := 20000000) (disch := first | assumption | decide | with_unfolding_all rfl | omega | (simp only [LN] <;> omega) | (simp only [RO, OF])) only [RR, RM, LN, TT, d167_at, ↓reduceIte, Nat.reduceEqDiff, Nat.reduceLT, Nat.reduceLeDiff, Nat.reduceAdd, Nat.reduceSub, Nat.reduceMul, Nat.reduceMod, Nat.reduceDiv, Nat.reduceBEq, RH, h1'', h1', FF, LN, NN, NT]
noncomputable def t167 (fu : Nat) : CallP := noP
theorem t167_ok (fu : Nat) : CpOK Tryz.prog (t167 fu ) := noP_ok
theorem ok167 (fu : Nat) (x1 : List Int) (r) (h : ref01_trim fu x1 = some r) : PureOK Tryz.prog 167 [.arr x1.length (lm (ik .u32) x1)] (e167 r) :=
  pure_J mixed (cp := t167 fu ) (t167_ok fu  ) noI_ok i167 (w167 _ fu x1  ) h
/-! 96: lattice/latticeref01.Of -/
def d96 : List (Nat × List Nat) := [(0, [2]), (0, []), (0, [0, 3, 4, 5, 6, 7, 8, 9, 10])]
def d96_at := And.intro (show d96.getD 0 (0, []) = (0, [2]) from rfl) <| And.intro (show d96.getD 1 (0, []) = (0, []) from rfl) <| (show d96.getD 2 (0, []) = (0, [0, 3, 4, 5, 6, 7, 8, 9, 10]) from rfl)
theorem i96 : finfo Tryz.prog 96 d96 = some ⟨bodyOf Tryz.f96, [.tmp 2], [119]⟩ := finfo_at Tryz.func96 rfl (by kernel_rfl) (by kernel_rfl)
def e96 : (List Int) → AV := fun r => .arr r.length (lm (ik .u32) r)
set_option maxHeartbeats 20000000 in
theorem w96 (cp : CallP) (fu : Nat) (x1 : Int) (H167_0 : ∀ (a0 : List Int) r, ref01_trim fu a0 = some r → cp 167 [.arr a0.length (lm (ik .u32) a0)] = some (.arr r.length (lm (ik .u32) r))) : J (go Tryz.prog noC cp noI 0 [] d96 fu (fin Tryz.prog [.tmp 2] [119]) (bodyOf Tryz.f96) (initE 0 [.v (.int .u64 x1)]) [] []) (ref01_Of fu x1) e96 := by
  unfold ref01_Of e96
  refine J.bind fun x2 h1 => ?_
  have e_h1 := H167_0 _ _ h1
  try simp only [NN, NT, LN] at e_h1
  refine J.some ?_
  simp (maxSteps := 20000000) (disch := first | assumption | decide | with_unfolding_all rfl | omega | (simp only [LN] <;> omega) | (simp only [RO, OF])) only [bodyOf, Tryz.f96, RR, RM, LN, TT, d96_at, ↓reduceIte, Nat.reduceEqDiff, Nat.reduceLT, Nat.reduceLeDiff, Nat.reduceAdd, Nat.reduceSub, Nat.reduceMul, Nat.reduceMod, Nat.reduceDiv, Nat.reduceBEq, RH, e_h1, FF, LN, NN, NT]
noncomputable def t96 (fu : Nat) : CallP := orE 167 (mkC (fun (t : List Int) => ([.arr t.length (lm (ik .u32) t)] : List AV)) (fun t => ref01_trim fu t) e167) (noP)
theorem t96_ok (fu : Nat) : CpOK Tryz.prog (t96 fu ) := orE_ok (noP_ok) (mkC_ok (fun t b h => ok167 fu t  b h))
theorem ok96 (fu : Nat) (x1 : Int) (r) (h : ref01_Of fu x1 = some r) : PureOK Tryz.prog 96 [.v (.int .u64 x1)] (e96 r) :=
  pure_J mixed (cp := t96 fu ) (t96_ok fu  ) noI_ok i96 (w96 _ fu x1  (fun a0 r h => orE_hit (mkC_at (a := a0) (by intro a b h; first | (exact rfl) | (simp only [INJ, IJ] at h; first | exact h | (simp_all [Prod.ext_iff]) )) h))) h
end Go.Av
