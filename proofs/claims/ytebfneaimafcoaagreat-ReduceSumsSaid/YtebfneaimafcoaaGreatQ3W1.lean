/- The walks of the plain functions. Made by a program of mine. Conditions: none. -/
import Derived.Test.YtebfneaimafcoaaGreatQ3S
import Derived.Test.YtebfneaimafcoaaGreatQ3A
import Derived.Test.YtebfneaimafcoaaGreatProg
set_option linter.unusedVariables false
set_option linter.unusedSimpArgs false
set_option linter.defProp false
set_option maxRecDepth 20000
open Go Go.Proofs
namespace Go.Av
theorem mixed : Tryz.prog.follows .mixedOrders = true := by kernel_rfl
def bodyOf (f : Func) : Code := f.body.getD .skip
theorem tv3 : tview Tryz.prog 3 = some (.int .i64) := by kernel_rfl
theorem ts3 : tsize Tryz.prog 3 = 1 := by kernel_rfl
def pt3 := @ptW _ _ _ tv3 rfl
def st3 := @stW _ _ ts3
theorem tv4 : tview Tryz.prog 4 = some (.bool) := by kernel_rfl
theorem ts4 : tsize Tryz.prog 4 = 1 := by kernel_rfl
def pt4 := @ptW _ _ _ tv4 rfl
def sb4 := @sbW _ _ ts4
theorem tv5 : tview Tryz.prog 5 = some (.int .u8) := by kernel_rfl
theorem ts5 : tsize Tryz.prog 5 = 1 := by kernel_rfl
def pt5 := @ptW _ _ _ tv5 rfl
def st5 := @stW _ _ ts5
theorem tv9 : tview Tryz.prog 9 = some (.str) := by kernel_rfl
theorem ts9 : tsize Tryz.prog 9 = 1 := by kernel_rfl
def pt9 := @ptW _ _ _ tv9 rfl
theorem ix9 : ∀ {s : ByteArray} {i : Int}, aindex Tryz.prog 9 (.v (.string s)) i = aixS s i := ix_str tv9
theorem tv22 : tview Tryz.prog 22 = some (.slice 24 1 4) := by kernel_rfl
theorem ts22 : tsize Tryz.prog 22 = 1 := by kernel_rfl
def pt22 := @ptW _ _ _ tv22 rfl
def ia22 := @iaW _ _ _ _ _ tv22
def io22 := @ioW _ _ _ _ _ tv22
def le22 := @leW _ _ _ _ _ tv22
def sa22 := @saW _ _ ts22
def so22 := @soW _ _ ts22
theorem tv24 : tview Tryz.prog 24 = some (.int .u32) := by kernel_rfl
theorem ts24 : tsize Tryz.prog 24 = 1 := by kernel_rfl
def pt24 := @ptW _ _ _ tv24 rfl
def st24 := @stW _ _ ts24
theorem tv89 : tview Tryz.prog 89 = some (.int .u64) := by kernel_rfl
theorem ts89 : tsize Tryz.prog 89 = 1 := by kernel_rfl
def pt89 := @ptW _ _ _ tv89 rfl
def st89 := @stW _ _ ts89
theorem tv91 : tview Tryz.prog 91 = some (.struct) := by kernel_rfl
theorem ts91 : tsize Tryz.prog 91 = 5 := by kernel_rfl
theorem pt91 : ∀ {xs : List AV} {off : Nat}, part Tryz.prog xs 91 off = if off + 5 ≤ xs.length then some (.agg ((xs.drop off).take 5)) else none := part_struct tv91 ts91
theorem sg91 : ∀ {h : Heap} {id : Id} {off : Nat} {ys : List AV}, ys.length = 5 → stX Tryz.prog 91 h (.ptr id off 0) (.agg ys) = (h.get id).bind (stH Tryz.prog 91 h id off ys) := stX_aggH ts91 (by decide)
theorem tv97 : tview Tryz.prog 97 = some (.slice 24 1 4) := by kernel_rfl
theorem ts97 : tsize Tryz.prog 97 = 1 := by kernel_rfl
def pt97 := @ptW _ _ _ tv97 rfl
def ia97 := @iaW _ _ _ _ _ tv97
def io97 := @ioW _ _ _ _ _ tv97
def le97 := @leW _ _ _ _ _ tv97
theorem tz24 : tzero Tryz.prog 24 = some [.v (.int .u32 0)] := by kernel_rfl
theorem mk97 : ∀ {a b : Int} {k k' : IntKind}, 0 ≤ a → a ≤ b → b ≤ 140737488355328 → b * 4 ≤ 140737488355328 → mkX Tryz.prog 97 (.v (.int k a)) (.v (.int k' b)) = some (.fresh 1 a.toNat (lm (ik .u32) (List.replicate a.toNat 0))) := mk_ik tv97 tz24
def ap97 := @apW _ _ _ _ _ _ tv97 tz24 rfl (by decide)
def bs97 := @bsW _ _ _ _ _ _ tv97 tz24 rfl (by decide)
def ao97 := @aoW _ _ _ _ _ tv97
def as97 := @asW _ _ _ _ _ tv97
def sa97 := @saW _ _ ts97
def so97 := @soW _ _ ts97
theorem fo91_0 : fieldOf Tryz.prog 91 0 = some (0, 4) := by kernel_rfl
def fp91_0 := @fpW _ _ _ _ _ _ fo91_0 ts4 (by decide)
def fr91_0 := @frW _ _ _ _ _ _ fo91_0 ts4 (by decide)
theorem fo91_1 : fieldOf Tryz.prog 91 1 = some (1, 4) := by kernel_rfl
def fp91_1 := @fpW _ _ _ _ _ _ fo91_1 ts4 (by decide)
def fr91_1 := @frW _ _ _ _ _ _ fo91_1 ts4 (by decide)
theorem fo91_2 : fieldOf Tryz.prog 91 2 = some (2, 4) := by kernel_rfl
def fp91_2 := @fpW _ _ _ _ _ _ fo91_2 ts4 (by decide)
def fr91_2 := @frW _ _ _ _ _ _ fo91_2 ts4 (by decide)
theorem fo91_3 : fieldOf Tryz.prog 91 3 = some (3, 3) := by kernel_rfl
def fp91_3 := @fpW _ _ _ _ _ _ fo91_3 ts3 (by decide)
def fr91_3 := @frW _ _ _ _ _ _ fo91_3 ts3 (by decide)
theorem fo91_4 : fieldOf Tryz.prog 91 4 = some (4, 89) := by kernel_rfl
def fp91_4 := @fpW _ _ _ _ _ _ fo91_4 ts89 (by decide)
def fr91_4 := @frW _ _ _ _ _ _ fo91_4 ts89 (by decide)
theorem tz91 : tzero Tryz.prog 91 = some [.v (.bool false), .v (.bool false), .v (.bool false), .v (.int .i64 0), .v (.int .u64 0)] := by kernel_rfl
def bl91 := @blW _ _ _ tz91 tv91
theorem fl91_0 : flP Tryz.prog 91 0 = some (0, 1) := @flW _ _ _ _ _ _ fo91_0 ts4
theorem fl91_1 : flP Tryz.prog 91 1 = some (1, 1) := @flW _ _ _ _ _ _ fo91_1 ts4
theorem fl91_2 : flP Tryz.prog 91 2 = some (2, 1) := @flW _ _ _ _ _ _ fo91_2 ts4
theorem fl91_3 : flP Tryz.prog 91 3 = some (3, 1) := @flW _ _ _ _ _ _ fo91_3 ts3
theorem fl91_4 : flP Tryz.prog 91 4 = some (4, 1) := @flW _ _ _ _ _ _ fo91_4 ts89
def al91 := @alW _ _ _ tz91
def aq91 := @aqW _ _ _ tz91
theorem ab4 : ∀ {op : BinOp} {a b : Bool}, abin Tryz.prog op 4 (.v (.bool a)) (.v (.bool b)) = abinB op a b := abin_bool tv4
theorem cv3_89 : ∀ {k' : IntKind} {z : Int}, cvX Tryz.prog 3 89 (.v (.int k' z)) = some (.v (.int .u64 (wk .u64 z))) := cvX_at tv3 tv89
theorem cv5_3 : ∀ {k' : IntKind} {z : Int}, cvX Tryz.prog 5 3 (.v (.int k' z)) = some (.v (.int .i64 (wk .i64 z))) := cvX_at tv5 tv3
theorem cv24_3 : ∀ {k' : IntKind} {z : Int}, cvX Tryz.prog 24 3 (.v (.int k' z)) = some (.v (.int .i64 (wk .i64 z))) := cvX_at tv24 tv3
theorem cv24_89 : ∀ {k' : IntKind} {z : Int}, cvX Tryz.prog 24 89 (.v (.int k' z)) = some (.v (.int .u64 (wk .u64 z))) := cvX_at tv24 tv89
theorem cv89_5 : ∀ {k' : IntKind} {z : Int}, cvX Tryz.prog 89 5 (.v (.int k' z)) = some (.v (.int .u8 (wk .u8 z))) := cvX_at tv89 tv5
theorem cv89_24 : ∀ {k' : IntKind} {z : Int}, cvX Tryz.prog 89 24 (.v (.int k' z)) = some (.v (.int .u32 (wk .u32 z))) := cvX_at tv89 tv24
theorem sc91 : sliceCells Tryz.prog 4 91 = [0, 0, 0, 0, 0] := by kernel_rfl
theorem ty91 : ∀ {xs : List AV}, typed Tryz.prog 91 (.agg xs) = .agg (nilNew xs [0, 0, 0, 0, 0]) := ty_agg sc91
theorem sc97 : sliceCells Tryz.prog 4 97 = [2] := by kernel_rfl
theorem ty97 : typed Tryz.prog 97 (.v (.slice none 0 0)) = .fresh 1 0 [] := ty_nil sc97
theorem c_T_soft_number_at {x : T_soft_number} : c_T_soft_number x = [.v (.bool x.fneg), .v (.bool x.fnan), .v (.bool x.finf), .v (.int .i64 x.fexp), .v (.int .u64 x.fsig)] := rfl
theorem c_T_soft_number_inj : Inj c_T_soft_number := by
  intro a b h
  obtain ⟨a0, a1, a2, a3, a4⟩ := a
  obtain ⟨b0, b1, b2, b3, b4⟩ := b
  simp only [c_T_soft_number_at, INJ] at h
  simp_all
def TT0 := And.intro @ts3 <| And.intro @pt3 <| And.intro @st3 <| And.intro @ts4 <| And.intro @pt4 <| And.intro @sb4 <| And.intro @ts5 <| And.intro @pt5 <| And.intro @st5 <| And.intro @ts9 <| And.intro @pt9 <| And.intro @ix9 <| And.intro @ts22 <| And.intro @pt22 <| And.intro @ia22 <| And.intro @io22 <| And.intro @le22 <| And.intro @sa22 <| And.intro @so22 <| And.intro @ts24 <| And.intro @pt24 <| And.intro @st24 <| And.intro @ts89 <| And.intro @pt89 <| And.intro @st89 <| And.intro @ts91 <| And.intro @pt91 <| And.intro @sg91 <| And.intro @ts97 <| And.intro @pt97 <| And.intro @ia97 <| And.intro @io97 <| And.intro @le97 <| And.intro @mk97 <| And.intro @ap97 <| And.intro @bs97 <| And.intro @ao97 <| And.intro @as97 <| And.intro @sa97 <| @so97
def TT1 := And.intro @fo91_0 <| And.intro @fp91_0 <| And.intro @fr91_0 <| And.intro @fo91_1 <| And.intro @fp91_1 <| And.intro @fr91_1 <| And.intro @fo91_2 <| And.intro @fp91_2 <| And.intro @fr91_2 <| And.intro @fo91_3 <| And.intro @fp91_3 <| And.intro @fr91_3 <| And.intro @fo91_4 <| And.intro @fp91_4 <| And.intro @fr91_4 <| And.intro @bl91 <| And.intro @fl91_0 <| And.intro @fl91_1 <| And.intro @fl91_2 <| And.intro @fl91_3 <| And.intro @fl91_4 <| And.intro @al91 <| And.intro @aq91 <| And.intro @ab4 <| And.intro @cv3_89 <| And.intro @cv5_3 <| And.intro @cv24_3 <| And.intro @cv24_89 <| And.intro @cv89_5 <| And.intro @cv89_24 <| And.intro @ty91 <| And.intro @ty97 <| And.intro @c_T_soft_number_at <| (fun l => @one_fm _ c_T_soft_number l c_T_soft_number_one)
def TT := And.intro @TT0 <| @TT1
def OF := (fun l => @one_fm _ c_T_soft_number l c_T_soft_number_one)
def NT := And.intro @c_T_soft_number_at True.intro
def OZ := And.intro LN <| And.intro RO OF
theorem Zd {p : Prop} (h : p := by first | assumption | decide | with_unfolding_all rfl | omega | simp only [OZ] <;> omega | fail) : p := h
theorem Ze {p : Prop} (h : p := by first | rfl | (simp only [LN, NN, NT])) : p := h
theorem Zh {p : Prop} (h : p := by first | (simp (disch := first | exact Zd | fail) only [RR, simprocAttr, LN, NN, NT]; done) | (simp (disch := first | exact Zd | fail) only [RR, simprocAttr, LN, fm_app, NN, NT]; done) | rfl) : p := h
def FN := And.intro FF <| And.intro LN <| And.intro NN NT
def ZZ := And.intro RR <| And.intro RM <| And.intro LN <| And.intro TT RH
theorem Jc {β : Type} {m m' : Option AV} {s : Option β} {enc : β → AV} (j : J m' s enc) (h : m = m' := by conv => lhs; simp (disch := first | exact Zd | fail) only [ZZ, simprocAttr, *]) : J m s enc := J.eq h j
theorem Js {p : Prop} (h : p := by simp (maxSteps := 20000000) (disch := first | exact Zd | fail) only [ZZ, simprocAttr, FN, *]) : p := h
def IJ := And.intro (@c_inj_iff _ _ c_T_soft_number_inj) <| And.intro (@lm_inj_iff _ _ (inj_avf (inj_fm c_T_soft_number_len (by decide) c_T_soft_number_inj))) <| (@fm_inj_iff _ _ (inj_fm c_T_soft_number_len (by decide) c_T_soft_number_inj))
theorem Zi {p : Prop} (h : p := by intro a b h; first | (exact rfl) | (simp only [INJ, IJ] at h; first | exact h | (simp_all [Prod.ext_iff]) )) : p := h
def ZG := And.intro ZZ <| And.intro RU <| And.intro @go_seq <| And.intro @ret_seq <| And.intro @Nat.sub_zero @Nat.zero_le
def ZN := And.intro ZZ RU
theorem Jg {β : Type} {m m' : Option AV} {s : Option β} {enc : β → AV} (j : J m' s enc) (h : m = m' := by conv => lhs; try simp (maxSteps := 20000000) (disch := first | exact Zd | fail) only [ZG, simprocAttr, *]) : J m s enc := J.eq h j
theorem Jn {β : Type} {m m' : Option AV} {s : Option β} {enc : β → AV} {i : Nat} {ρ τ : Type} {r : ρ} {fj : τ → Option β} (j : J m' (jn i r fj s) enc) (h : m = m' := by conv => lhs; simp (maxSteps := 20000000) (disch := first | exact Zd | fail) only [ZN, simprocAttr, *]) : J m (jn i r fj s) enc := J.eq h j
theorem Jk {β : Type} {m m' : Option AV} {s : Option β} {enc : β → AV} {i : Nat} {ρ τ : Type} {r : ρ} {fj : τ → Option β} (j : J m' (jc i r fj s) enc) (h : m = m' := by conv => lhs; simp (maxSteps := 20000000) (disch := first | exact Zd | fail) only [ZN, simprocAttr, *]) : J m (jc i r fj s) enc := J.eq h j
theorem Jl  {β : Type} {m m' : Option AV} {enc : β → AV} {σ : Type} {body : (σ → Option β) → σ → Option β} {k : Nat} {s0 : σ} (j : J m' (cloop body k s0) enc) (h : m = m' := by conv => lhs; simp (maxSteps := 20000000) (disch := first | exact Zd | fail) only [ZN, simprocAttr, *]) : J m (cloop body k s0) enc := J.eq h j
theorem Jw {p : Prop} (h : p := by simp (maxSteps := 20000000) (disch := first | exact Zd | fail) only [ZG, simprocAttr, FN, *]) : p := h
theorem Zx {p : Prop} (h : p := by first | rfl | (simp only [LN, NN, NT]; done) | (simp (disch := first | exact Zd | fail) only [RR, simprocAttr, LN, NN, NT]; done) | (simp (disch := first | exact Zd | fail) only [RR, simprocAttr, LN, fm_app, NN, NT]; done) | (simp (maxSteps := 20000000) (disch := first | exact Zd | fail) only [ZZ, simprocAttr, kinV_at, kinVB_at, FN, *]; done) | (simp (maxSteps := 20000000) (disch := first | exact Zd | fail) only [ZZ, simprocAttr, kinV_at, kinVB_at, fm_app, FN, *]; done)) : p := h
theorem J.gi {β : Type} {m : Option AV} {s : Option β} {enc : β → AV} {c : Prop} {dd : Decidable c} {s1 : Option β} (j : J m (if c then s else s1) enc) : J m (if c then s else s1) enc := j
theorem J.gj {β : Type} {m : Option AV} {s : Option β} {enc : β → AV} {i : Nat} {ρ τ : Type} {r : ρ} {fj : τ → Option β} (j : J m (jn i r fj s) enc) : J m (jn i r fj s) enc := j
theorem J.gk {β : Type} {m : Option AV} {s : Option β} {enc : β → AV} {i : Nat} {ρ τ : Type} {r : ρ} {fj : τ → Option β} (j : J m (jc i r fj s) enc) : J m (jc i r fj s) enc := j
theorem J.gl {β : Type} {m : Option AV} {enc : β → AV} {σ : Type} {body : (σ → Option β) → σ → Option β} {k : Nat} {s0 : σ} (j : J m (cloop body k s0) enc) : J m (cloop body k s0) enc := j
theorem Wk {p : Prop} (h : p := by repeat' first | with_reducible exact J.none | with_reducible refine J.chk fun c => ?_ | (with_reducible refine J.atI fun r a b c d => ?_; try simp only [Int.toNat_natCast, LN, Nat.sub_zero, Nat.zero_mul, Nat.zero_add, Nat.add_zero, List.drop_zero, simprocAttr] at b c d) | (with_reducible refine J.atB fun r a b c d => ?_; try simp only [Int.toNat_natCast, LN, Nat.sub_zero, Nat.zero_mul, Nat.zero_add, Nat.add_zero, List.drop_zero, simprocAttr] at b c d) | (with_reducible refine J.atL fun r a b c d => ?_; try simp only [Int.toNat_natCast, LN, Nat.sub_zero, Nat.zero_mul, Nat.zero_add, Nat.add_zero, List.drop_zero, simprocAttr] at b c d) | (with_reducible refine J.atN c_T_soft_number_len fun r b c d => ?_; try simp only [Int.toNat_natCast, LN, Nat.sub_zero, Nat.zero_mul, Nat.zero_add, Nat.add_zero, List.drop_zero, simprocAttr] at b c d) | (with_reducible refine J.atS c_T_soft_number_len fun r a b c d => ?_; try simp only [Int.toNat_natCast, LN, Nat.sub_zero, Nat.zero_mul, Nat.zero_add, Nat.add_zero, List.drop_zero, simprocAttr] at b c d) | (with_reducible refine J.atM (c := c_T_soft_number) fun r a b c d => ?_; try simp only [Int.toNat_natCast, LN, Nat.sub_zero, Nat.zero_mul, Nat.zero_add, Nat.add_zero, List.drop_zero, simprocAttr] at b c d) | with_reducible refine J.sat fun r a => ?_ | ((with_reducible refine J.bind fun x h => ?_); (first | with_reducible have e := H1.ap h | with_reducible have e := H2.ap h | with_reducible have e := H3.ap h | with_reducible have e := H4.ap h | with_reducible have e := H5.ap h | with_reducible have e := H6.ap h | with_reducible have e := H7.ap h | with_reducible have e := H8.ap h | with_reducible have e := H9.ap h); try simp only [NN, NT, LN, simprocAttr, DT] at e) | (with_reducible refine J.some ?_; exact Jw) | (with_reducible refine J.gi ?_; refine Jg ?_; first | with_reducible refine J.iteLt (fun h k => ?_) (fun h k => ?_) | with_reducible refine J.iteLe (fun h k => ?_) (fun h k => ?_) | with_reducible refine J.iteEq (fun h k l => ?_) (fun h => ?_) | with_reducible refine J.iteB (fun h => ?_) (fun h => ?_) | with_reducible refine J.iteD (fun h => ?_) (fun h => ?_)) | (first | with_reducible refine J.hd (W1.eq_1 ..) ?_ | with_reducible refine J.hd (W2.eq_1 ..) ?_) | (with_reducible refine J.gj ?_; first | (first | (refine J.joinT j1 rfl (by intro; conv => lhs; simp (disch := first | exact Zd | fail) only [j1, ZN, simprocAttr]) (by intro; conv => lhs; simp (disch := first | exact Zd | fail) only [j1, ZN, simprocAttr]) (fun t => J.hd (k1.eq_1 ..) ?_) (fun a1 => ?_); all_goals try simp only [Prod.forall, unit_all] at a1) | (refine J.joinT j2 rfl (by intro; conv => lhs; simp (disch := first | exact Zd | fail) only [j2, ZN, simprocAttr]) (by intro; conv => lhs; simp (disch := first | exact Zd | fail) only [j2, ZN, simprocAttr]) (fun t => J.hd (k2.eq_1 ..) ?_) (fun a2 => ?_); all_goals try simp only [Prod.forall, unit_all] at a2) | (refine J.joinT j3 rfl (by intro; conv => lhs; simp (disch := first | exact Zd | fail) only [j3, ZN, simprocAttr]) (by intro; conv => lhs; simp (disch := first | exact Zd | fail) only [j3, ZN, simprocAttr]) (fun t => J.hd (k3.eq_1 ..) ?_) (fun a3 => ?_); all_goals try simp only [Prod.forall, unit_all] at a3) | (refine J.joinT j4 rfl (by intro; conv => lhs; simp (disch := first | exact Zd | fail) only [j4, ZN, simprocAttr]) (by intro; conv => lhs; simp (disch := first | exact Zd | fail) only [j4, ZN, simprocAttr]) (fun t => J.hd (k4.eq_1 ..) ?_) (fun a4 => ?_); all_goals try simp only [Prod.forall, unit_all] at a4) | (refine J.joinT j5 rfl (by intro; conv => lhs; simp (disch := first | exact Zd | fail) only [j5, ZN, simprocAttr]) (by intro; conv => lhs; simp (disch := first | exact Zd | fail) only [j5, ZN, simprocAttr]) (fun t => J.hd (k5.eq_1 ..) ?_) (fun a5 => ?_); all_goals try simp only [Prod.forall, unit_all] at a5) | refine J.sqj ?_ | refine J.rqj ?_) | (refine Jn ?_; first | (refine J.joinT j1 rfl (by intro; conv => lhs; simp (disch := first | exact Zd | fail) only [j1, ZN, simprocAttr]) (by intro; conv => lhs; simp (disch := first | exact Zd | fail) only [j1, ZN, simprocAttr]) (fun t => J.hd (k1.eq_1 ..) ?_) (fun a1 => ?_); all_goals try simp only [Prod.forall, unit_all] at a1) | (refine J.joinT j2 rfl (by intro; conv => lhs; simp (disch := first | exact Zd | fail) only [j2, ZN, simprocAttr]) (by intro; conv => lhs; simp (disch := first | exact Zd | fail) only [j2, ZN, simprocAttr]) (fun t => J.hd (k2.eq_1 ..) ?_) (fun a2 => ?_); all_goals try simp only [Prod.forall, unit_all] at a2) | (refine J.joinT j3 rfl (by intro; conv => lhs; simp (disch := first | exact Zd | fail) only [j3, ZN, simprocAttr]) (by intro; conv => lhs; simp (disch := first | exact Zd | fail) only [j3, ZN, simprocAttr]) (fun t => J.hd (k3.eq_1 ..) ?_) (fun a3 => ?_); all_goals try simp only [Prod.forall, unit_all] at a3) | (refine J.joinT j4 rfl (by intro; conv => lhs; simp (disch := first | exact Zd | fail) only [j4, ZN, simprocAttr]) (by intro; conv => lhs; simp (disch := first | exact Zd | fail) only [j4, ZN, simprocAttr]) (fun t => J.hd (k4.eq_1 ..) ?_) (fun a4 => ?_); all_goals try simp only [Prod.forall, unit_all] at a4) | (refine J.joinT j5 rfl (by intro; conv => lhs; simp (disch := first | exact Zd | fail) only [j5, ZN, simprocAttr]) (by intro; conv => lhs; simp (disch := first | exact Zd | fail) only [j5, ZN, simprocAttr]) (fun t => J.hd (k5.eq_1 ..) ?_) (fun a5 => ?_); all_goals try simp only [Prod.forall, unit_all] at a5) | refine J.sqj ?_ | refine J.rqj ?_)) | (with_reducible refine J.gl ?_; first | (first | refine J.loopT m1 rfl (by intro; conv => lhs; simp (disch := first | exact Zd | fail) only [m1, ZN, simprocAttr]) (by intro; conv => lhs; simp (disch := first | exact Zd | fail) only [m1, ZN, simprocAttr]) Zx Zx (fun next k n s => J.hd (L1.eq_1 ..) ?_) | refine J.loopT m2 rfl (by intro; conv => lhs; simp (disch := first | exact Zd | fail) only [m2, ZN, simprocAttr]) (by intro; conv => lhs; simp (disch := first | exact Zd | fail) only [m2, ZN, simprocAttr]) Zx Zx (fun next k n s => J.hd (L2.eq_1 ..) ?_) | refine J.sql ?_ | refine J.rql ?_) | (refine Jl ?_; first | refine J.loopT m1 rfl (by intro; conv => lhs; simp (disch := first | exact Zd | fail) only [m1, ZN, simprocAttr]) (by intro; conv => lhs; simp (disch := first | exact Zd | fail) only [m1, ZN, simprocAttr]) Zx Zx (fun next k n s => J.hd (L1.eq_1 ..) ?_) | refine J.loopT m2 rfl (by intro; conv => lhs; simp (disch := first | exact Zd | fail) only [m2, ZN, simprocAttr]) (by intro; conv => lhs; simp (disch := first | exact Zd | fail) only [m2, ZN, simprocAttr]) Zx Zx (fun next k n s => J.hd (L2.eq_1 ..) ?_) | refine J.sql ?_ | refine J.rql ?_)) | (refine Jg ?_; first | ((with_reducible apply a1) <;> first | exact () | exact Zx) | ((with_reducible apply a2) <;> first | exact () | exact Zx) | ((with_reducible apply a3) <;> first | exact () | exact Zx) | ((with_reducible apply a4) <;> first | exact () | exact Zx) | ((with_reducible apply a5) <;> first | exact () | exact Zx) | ((with_reducible apply b1) <;> first | exact () | exact Zx) | ((with_reducible apply b2) <;> first | exact () | exact Zx) | ((with_reducible apply b3) <;> first | exact () | exact Zx) | ((with_reducible apply b4) <;> first | exact () | exact Zx) | ((with_reducible apply b5) <;> first | exact () | exact Zx) | refine J.nextT (by assumption) Zx Zx)) : p := h
open Aw (d17)
def d17_at := by have h := tabL Aw.d17.eq_1; simp only [AllAt, Nat.zero_add, Nat.reduceAdd] at h; exact h
theorem i17 : finfo Tryz.prog 17 d17 = some ⟨bodyOf Tryz.f17, [.tmp 6], [24]⟩ := finfo_at Tryz.func17 rfl (by kernel_rfl) (by kernel_rfl)
def e17 : Int → AV := fun r => .v (.int .u32 r)
set_option maxHeartbeats 20000000 in
theorem w17 (cp : CallP) (fu : Nat) (x1 : List Int) (x2 : Int) (p2 : Int → Int → Option Int) (fv_p2 : FuncId) (ca_p2 : List AV) (cap_p2 : Capt ca_p2) (hp_p2 : ∀ (y0 : Int) (y1 : Int) r, p2 y0 y1 = some r → cp fv_p2 ((.v (.int .u32 y0)) :: (.v (.int .u32 y1)) :: ca_p2) = some (.v (.int .u32 r))) : J (go Tryz.prog noC cp noI 0 [] d17 fu (fin Tryz.prog [.tmp 6] [24]) (bodyOf Tryz.f17) (initE 0 [.arr x1.length (lm (ik .u32) x1), .v (.int .u32 x2), .fn fv_p2 [] ca_p2]) [] []) (reduce_fold_uint32 fu x1 x2 p2) e17 := by
 unfold reduce_fold_uint32 e17
 have da := d17_at
 have c4_p2 := fun g => (cap_p2.1 g).1; have c3_p2 := fun g => (cap_p2.1 g).2.1; have b4_p2 := fun g => (cap_p2.1 g).2.2.1; have b3_p2 := fun g => (cap_p2.1 g).2.2.2; have nm_p2 := cap_p2.2
 conv => arg 1; simp (disch := first | exact Zd | fail) only [bodyOf, Tryz.f17, ZZ, d17_at, simprocAttr, c4_p2, c3_p2, b4_p2, b3_p2, nm_p2]
 refine J.eq go_seq ?_
 conv => arg 1; simp (disch := first | exact Zd | fail) only [ZZ, d17_at, simprocAttr, c4_p2, c3_p2, b4_p2, b3_p2, nm_p2]
 unfold reduce_fold_uint32.W1
 refine J.loop (fun (s : Int × Int) => ([(1, .v (.int .u32 s.1)), (2, .fn fv_p2 [] ca_p2), (9, .arr x1.length (lm (ik .u32) x1)), (10, .v (.int .i64 (x1.length : Int))), (11, .v (.int .i64 s.2))], [])) (fun next s => reduce_fold_uint32.L1 fu p2 x1 (fun x5 x6 => next (x5, x6)) s.1 s.2) (s0 := (x2, 0)) ?_ ?_ ?_
 ·exact Ze
 ·exact Zh
 rintro next k1 hn1 ⟨x5, x6⟩
 let nx1 : Int → Int → Option Int := (fun x5 x6 => next (x5, x6))
 show J _ (reduce_fold_uint32.L1 fu p2 x1 nx1 x5 x6) _
 unfold reduce_fold_uint32.L1
 conv => arg 1; simp (disch := first | exact Zd | fail) only [ZZ, d17_at, simprocAttr, c4_p2, c3_p2, b4_p2, b3_p2, nm_p2]
 refine J.eq go_seq ?_
 conv => arg 1; simp (disch := first | exact Zd | fail) only [ZZ, d17_at, simprocAttr, c4_p2, c3_p2, b4_p2, b3_p2, nm_p2]
 refine J.ite (fun h1 => ?_) (fun h1 => ?_)
 ·have h1' := decide_eq_true h1
  have h1'' : decide ((x1.length : Int) ≤ x6) = false := decide_eq_false (by omega)
  conv => arg 1; simp (disch := first | exact Zd | fail) only [ZZ, d17_at, simprocAttr, c4_p2, c3_p2, b4_p2, b3_p2, nm_p2, h1'', h1']
  refine J.eq ret_seq ?_
  refine J.eq go_seq ?_
  refine J.at fun x9 h2 h3 h4 => ?_
  refine J.bind fun x10 h5 => ?_
  have e_h5 := hp_p2 _ _ _ h5
  try simp only [NN, NT, LN, simprocAttr, DT] at e_h5
  conv => arg 1; simp (disch := first | exact Zd | fail) only [ZZ, d17_at, simprocAttr, c4_p2, c3_p2, b4_p2, b3_p2, nm_p2, h1'', h1', lm_ik h4, e_h5]
  refine J.eq ret_seq ?_
  conv => arg 1; simp (disch := first | exact Zd | fail) only [ZZ, d17_at, simprocAttr, c4_p2, c3_p2, b4_p2, b3_p2, nm_p2, h1'', h1', lm_ik h4, e_h5]
  refine J.next (s := (x10, wk .i64 (x6 + 1))) hn1 ?_ ?_
  ·exact Ze
  ·exact Zh
 ·have h1' := decide_eq_false h1
  have h1'' : decide ((x1.length : Int) ≤ x6) = true := decide_eq_true (by omega)
  conv => arg 1; simp (disch := first | exact Zd | fail) only [ZZ, d17_at, simprocAttr, c4_p2, c3_p2, b4_p2, b3_p2, nm_p2, h1'', h1']
  refine J.eq ret_seq ?_
  refine J.some ?_
  simp (maxSteps := 20000000) (disch := first | exact Zd | fail) only [ZZ, d17_at, simprocAttr, c4_p2, c3_p2, b4_p2, b3_p2, nm_p2, h1'', h1', FN]
noncomputable def t17 (fu : Nat) (x1 : List Int) (x2 : Int) (p2 : Int → Int → Option Int) (fv_p2 : FuncId) (ca_p2 : List AV) : CallP := orE fv_p2 (mkC (fun (t : Int × Int) => ((.v (.int .u32 t.1)) :: (.v (.int .u32 t.2)) :: ca_p2 : List AV)) (fun t => p2 t.1 t.2) (fun r => .v (.int .u32 r))) (noP)
theorem t17_ok (fu : Nat) (x1 : List Int) (x2 : Int) (p2 : Int → Int → Option Int) (fv_p2 : FuncId) (ca_p2 : List AV) (cap_p2 : Capt ca_p2) (hp_p2 : ∀ (y0 : Int) (y1 : Int) r, p2 y0 y1 = some r → PureOK Tryz.prog fv_p2 ((.v (.int .u32 y0)) :: (.v (.int .u32 y1)) :: ca_p2) (.v (.int .u32 r))) : CpOK Tryz.prog (t17 fu x1 x2 p2 fv_p2 ca_p2) := orE_ok (noP_ok) (mkC_ok (fun t b h => hp_p2 t.1 t.2 b h))
theorem ok17 (fu : Nat) (x1 : List Int) (x2 : Int) (p2 : Int → Int → Option Int) (fv_p2 : FuncId) (ca_p2 : List AV) (cap_p2 : Capt ca_p2) (hp_p2 : ∀ (y0 : Int) (y1 : Int) r, p2 y0 y1 = some r → PureOK Tryz.prog fv_p2 ((.v (.int .u32 y0)) :: (.v (.int .u32 y1)) :: ca_p2) (.v (.int .u32 r))) (r) (h : reduce_fold_uint32 fu x1 x2 p2 = some r) : PureOK Tryz.prog 17 [.arr x1.length (lm (ik .u32) x1), .v (.int .u32 x2), .fn fv_p2 [] ca_p2] (e17 r) :=
  pure_J mixed (cp := t17 fu x1 x2 p2 fv_p2 ca_p2) (t17_ok fu x1 x2 p2 fv_p2 ca_p2 cap_p2 hp_p2) noI_ok i17 (w17 _ fu x1 x2 p2 fv_p2 ca_p2 cap_p2 (fun y0 y1 r h => orE_hit (mkC_at (a := (y0, y1)) (by intro a b h; first | (exact rfl) | (simp only [INJ, IJ] at h; first | exact h | (simp_all [Prod.ext_iff]) )) h)) ) h
open Aw (d68)
def d68_at := by have h := tabL Aw.d68.eq_1; simp only [AllAt, Nat.zero_add, Nat.reduceAdd] at h; exact h
theorem i68 : finfo Tryz.prog 68 d68 = some ⟨bodyOf Tryz.f68, [.cell 2 91], [91]⟩ := finfo_at Tryz.func68 rfl (by kernel_rfl) (by kernel_rfl)
def e68 : T_soft_number → AV := fun r => .agg [.v (.bool r.fneg), .v (.bool r.fnan), .v (.bool r.finf), .v (.int .i64 r.fexp), .v (.int .u64 r.fsig)]
set_option maxHeartbeats 20000000 in
theorem w68 (cp : CallP) (fu : Nat) (x1 : Int)  : J (go Tryz.prog noC cp noI 0 [] d68 fu (fin Tryz.prog [.cell 2 91] [91]) (bodyOf Tryz.f68) (initE 0 [.v (.int .u32 x1)]) [] []) (soft_open fu x1) e68 := by
 unfold soft_open e68
 have da := d68_at
 conv => arg 1; simp only [bodyOf, Tryz.f68]
 have z0 := d68_at
 exact Wk
theorem ok68 (fu : Nat) (x1 : Int) (r) (h : soft_open fu x1 = some r) : PureOK Tryz.prog 68 [.v (.int .u32 x1)] (e68 r) := pureT mixed [] (ids := []) rfl (by decide) i68 (C := noC) (ci := fun cp => noI) (fun cp ok => noI_ok) (fun cp H => w68 cp fu x1 ) h
open Aw (d139)
def d139_at := by have h := tabL Aw.d139.eq_1; simp only [AllAt, Nat.zero_add, Nat.reduceAdd] at h; exact h
theorem i139 : finfo Tryz.prog 139 d139 = some ⟨bodyOf Tryz.f139, [.tmp 2], [24]⟩ := finfo_at Tryz.func139 rfl (by kernel_rfl) (by kernel_rfl)
def e139 : Int → AV := fun r => .v (.int .u32 r)
set_option maxHeartbeats 20000000 in
theorem w139 (cp : CallP) (fu : Nat) (x1 : Bool)  : J (go Tryz.prog noC cp noI 0 [] d139 fu (fin Tryz.prog [.tmp 2] [24]) (bodyOf Tryz.f139) (initE 0 [.v (.bool x1)]) [] []) (soft_sign fu x1) e139 := by
 unfold soft_sign e139
 have da := d139_at
 conv => arg 1; simp only [bodyOf, Tryz.f139]
 have z0 := d139_at
 exact Wk
theorem ok139 (fu : Nat) (x1 : Bool) (r) (h : soft_sign fu x1 = some r) : PureOK Tryz.prog 139 [.v (.bool x1)] (e139 r) := pureT mixed [] (ids := []) rfl (by decide) i139 (C := noC) (ci := fun cp => noI) (fun cp ok => noI_ok) (fun cp H => w139 cp fu x1 ) h
open Aw (d69)
def d69_at := by have h := tabL Aw.d69.eq_1; simp only [AllAt, Nat.zero_add, Nat.reduceAdd] at h; exact h
theorem i69 : finfo Tryz.prog 69 d69 = some ⟨bodyOf Tryz.f69, [.tmp 2], [24]⟩ := finfo_at Tryz.func69 rfl (by kernel_rfl) (by kernel_rfl)
def e69 : Int → AV := fun r => .v (.int .u32 r)
structure K139 (fu : Nat) (cp : CallP) : Prop where
 ap : ∀ {a0 : Bool} {r}, soft_sign fu a0 = some r → cp 139 [.v (.bool a0)] = some (.v (.int .u32 r))
noncomputable def C139 (fu : Nat) : Cm Tryz.prog Bool Int := ⟨139, fun t => [.v (.bool t)], fun t => soft_sign fu t, e139, fun t b h => ok139 fu t  b h, Zi⟩
theorem u139 {fu : Nat} {cp : CallP} (H : Hit cp (C139 fu).ct) : K139 fu cp := ⟨fun {a0 r} h => (C139 fu).at H a0 r h⟩
set_option maxHeartbeats 20000000 in
theorem w69 (cp : CallP) (fu : Nat) (x1 : Int) (H1 : K139 fu cp) : J (go Tryz.prog noC cp noI 0 [] d69 fu (fin Tryz.prog [.tmp 2] [24]) (bodyOf Tryz.f69) (initE 0 [.v (.int .i64 x1)]) [] []) (soft_nought fu x1) e69 := by
 unfold soft_nought e69
 have da := d69_at
 conv => arg 1; simp only [bodyOf, Tryz.f69]
 have z0 := d69_at
 exact Wk
theorem ok69 (fu : Nat) (x1 : Int) (r) (h : soft_nought fu x1 = some r) : PureOK Tryz.prog 69 [.v (.int .i64 x1)] (e69 r) := pureT mixed [(C139 fu).ct] (ids := [139]) rfl (by decide) i69 (C := noC) (ci := fun cp => noI) (fun cp ok => noI_ok) (fun cp H => w69 cp fu x1 (u139 H.1)) h
open Aw (d140)
def d140_at := by have h := tabL Aw.d140.eq_1; simp only [AllAt, Nat.zero_add, Nat.reduceAdd] at h; exact h
theorem i140 : finfo Tryz.prog 140 d140 = some ⟨bodyOf Tryz.f140, [.tmp 2], [3]⟩ := finfo_at Tryz.func140 rfl (by kernel_rfl) (by kernel_rfl)
def e140 : Int → AV := fun r => .v (.int .i64 r)
def math_bits_Len64.j2 : LJ 2 14 Unit (Int × Int) := ⟨fun r t e => [(0, .v (.int .u64 t.1)), (2, .v (.int .i64 t.2))], fun r t h => []⟩
def math_bits_Len64.j1 : LJ 1 8 Unit (Int × Int) := ⟨fun r t e => [(0, .v (.int .u64 t.1)), (2, .v (.int .i64 t.2))], fun r t h => []⟩
set_option maxHeartbeats 20000000 in
open math_bits_Len64 in
theorem w140 (cp : CallP) (fu : Nat) (x1 : Int)  : J (go Tryz.prog noC cp noI 0 [] d140 fu (fin Tryz.prog [.tmp 2] [3]) (bodyOf Tryz.f140) (initE 0 [.v (.int .u64 x1)]) [] []) (math_bits_Len64 fu x1) e140 := by
 unfold math_bits_Len64 e140
 have da := d140_at
 conv => arg 1; simp only [bodyOf, Tryz.f140]
 have z0 := d140_at
 exact Wk
theorem ok140 (fu : Nat) (x1 : Int) (r) (h : math_bits_Len64 fu x1 = some r) : PureOK Tryz.prog 140 [.v (.int .u64 x1)] (e140 r) := pureT mixed [] (ids := []) rfl (by decide) i140 (C := noC) (ci := fun cp => noI) (fun cp ok => noI_ok) (fun cp H => w140 cp fu x1 ) h
def d143 : List (Nat × List Nat) := [(0, [4]), (0, []), (0, [0, 1, 5, 6, 7, 8, 9, 10, 11, 12, 13, 14, 15, 16, 17])]
def d143_at := by have h := tabL d143.eq_1; simp only [AllAt, Nat.zero_add, Nat.reduceAdd] at h; exact h
theorem i143 : finfo Tryz.prog 143 d143 = some ⟨bodyOf Tryz.f143, [.tmp 4], [4]⟩ := finfo_at Tryz.func143 rfl (by kernel_rfl) (by kernel_rfl)
def e143 : Bool → AV := fun r => .v (.bool r)
set_option maxHeartbeats 20000000 in
theorem w143 (cp : CallP) (fu : Nat) (x1 : Int) (x2 : Bool)  : J (go Tryz.prog noC cp noI 0 [] d143 fu (fin Tryz.prog [.tmp 4] [4]) (bodyOf Tryz.f143) (initE 0 [.v (.int .i64 x1), .v (.bool x2)]) [] []) (soft_outwards fu x1 x2) e143 := by
 unfold soft_outwards e143
 have da := d143_at
 conv => arg 1; simp only [bodyOf, Tryz.f143]
 have z0 := d143_at
 exact Wk
theorem ok143 (fu : Nat) (x1 : Int) (x2 : Bool) (r) (h : soft_outwards fu x1 x2 = some r) : PureOK Tryz.prog 143 [.v (.int .i64 x1), .v (.bool x2)] (e143 r) := pureT mixed [] (ids := []) rfl (by decide) i143 (C := noC) (ci := fun cp => noI) (fun cp ok => noI_ok) (fun cp H => w143 cp fu x1 x2 ) h
def d141 : List (Nat × List Nat) := [(0, [4]), (0, []), (0, [0, 5, 6]), (0, []), (0, [8, 9, 10]), (0, []), (0, [1, 11, 12])]
def d141_at := by have h := tabL d141.eq_1; simp only [AllAt, Nat.zero_add, Nat.reduceAdd] at h; exact h
theorem i141 : finfo Tryz.prog 141 d141 = some ⟨bodyOf Tryz.f141, [.tmp 4], [24]⟩ := finfo_at Tryz.func141 rfl (by kernel_rfl) (by kernel_rfl)
def e141 : Int → AV := fun r => .v (.int .u32 r)
structure K143 (fu : Nat) (cp : CallP) : Prop where
 ap : ∀ {a0 : Int} {a1 : Bool} {r}, soft_outwards fu a0 a1 = some r → cp 143 [.v (.int .i64 a0), .v (.bool a1)] = some (.v (.bool r))
noncomputable def C143 (fu : Nat) : Cm Tryz.prog (Int × Bool) Bool := ⟨143, fun t => [.v (.int .i64 t.1), .v (.bool t.2)], fun t => soft_outwards fu t.1 t.2, e143, fun t b h => ok143 fu t.1 t.2  b h, Zi⟩
theorem u143 {fu : Nat} {cp : CallP} (H : Hit cp (C143 fu).ct) : K143 fu cp := ⟨fun {a0 a1 r} h => (C143 fu).at H (a0, a1) r h⟩
set_option maxHeartbeats 20000000 in
theorem w141 (cp : CallP) (fu : Nat) (x1 : Int) (x2 : Bool) (H1 : K143 fu cp) (H2 : K139 fu cp) : J (go Tryz.prog noC cp noI 0 [] d141 fu (fin Tryz.prog [.tmp 4] [24]) (bodyOf Tryz.f141) (initE 0 [.v (.int .i64 x1), .v (.bool x2)]) [] []) (soft_tiny fu x1 x2) e141 := by
 unfold soft_tiny e141
 have da := d141_at
 conv => arg 1; simp only [bodyOf, Tryz.f141]
 have z0 := d141_at
 exact Wk
theorem ok141 (fu : Nat) (x1 : Int) (x2 : Bool) (r) (h : soft_tiny fu x1 x2 = some r) : PureOK Tryz.prog 141 [.v (.int .i64 x1), .v (.bool x2)] (e141 r) := pureT mixed [(C143 fu).ct, (C139 fu).ct] (ids := [143, 139]) rfl (by decide) i141 (C := noC) (ci := fun cp => noI) (fun cp ok => noI_ok) (fun cp H => w141 cp fu x1 x2 (u143 H.1) (u139 H.2.1)) h
def d142 : List (Nat × List Nat) := [(0, [4]), (0, []), (0, [0, 5, 6, 7, 8, 9, 10, 11, 12, 13, 14, 15]), (0, []), (0, [17, 18, 19]), (0, []), (0, [1, 20, 21, 22])]
def d142_at := by have h := tabL d142.eq_1; simp only [AllAt, Nat.zero_add, Nat.reduceAdd] at h; exact h
theorem i142 : finfo Tryz.prog 142 d142 = some ⟨bodyOf Tryz.f142, [.tmp 4], [24]⟩ := finfo_at Tryz.func142 rfl (by kernel_rfl) (by kernel_rfl)
def e142 : Int → AV := fun r => .v (.int .u32 r)
def soft_huge.j1 : LJ 1 6 Unit Unit := ⟨fun r t e => [(1, er e 1)], fun r t h => []⟩
set_option maxHeartbeats 20000000 in
open soft_huge in
theorem w142 (cp : CallP) (fu : Nat) (x1 : Int) (x2 : Bool) (H1 : K139 fu cp) : J (go Tryz.prog noC cp noI 0 [] d142 fu (fin Tryz.prog [.tmp 4] [24]) (bodyOf Tryz.f142) (initE 0 [.v (.int .i64 x1), .v (.bool x2)]) [] []) (soft_huge fu x1 x2) e142 := by
 unfold soft_huge e142
 have da := d142_at
 conv => arg 1; simp only [bodyOf, Tryz.f142]
 have z0 := d142_at
 exact Wk
theorem ok142 (fu : Nat) (x1 : Int) (x2 : Bool) (r) (h : soft_huge fu x1 x2 = some r) : PureOK Tryz.prog 142 [.v (.int .i64 x1), .v (.bool x2)] (e142 r) := pureT mixed [(C139 fu).ct] (ids := [139]) rfl (by decide) i142 (C := noC) (ci := fun cp => noI) (fun cp ok => noI_ok) (fun cp H => w142 cp fu x1 x2 (u139 H.1)) h
open Aw (d70)
def d70_at := by have h := tabL Aw.d70.eq_1; simp only [AllAt, Nat.zero_add, Nat.reduceAdd] at h; exact h
theorem i70 : finfo Tryz.prog 70 d70 = some ⟨bodyOf Tryz.f70, [.tmp 10], [24]⟩ := finfo_at Tryz.func70 rfl (by kernel_rfl) (by kernel_rfl)
def e70 : Int → AV := fun r => .v (.int .u32 r)
structure K140 (fu : Nat) (cp : CallP) : Prop where
 ap : ∀ {a0 : Int} {r}, math_bits_Len64 fu a0 = some r → cp 140 [.v (.int .u64 a0)] = some (.v (.int .i64 r))
noncomputable def C140 (fu : Nat) : Cm Tryz.prog Int Int := ⟨140, fun t => [.v (.int .u64 t)], fun t => math_bits_Len64 fu t, e140, fun t b h => ok140 fu t  b h, Zi⟩
theorem u140 {fu : Nat} {cp : CallP} (H : Hit cp (C140 fu).ct) : K140 fu cp := ⟨fun {a0 r} h => (C140 fu).at H a0 r h⟩
structure K141 (fu : Nat) (cp : CallP) : Prop where
 ap : ∀ {a0 : Int} {a1 : Bool} {r}, soft_tiny fu a0 a1 = some r → cp 141 [.v (.int .i64 a0), .v (.bool a1)] = some (.v (.int .u32 r))
noncomputable def C141 (fu : Nat) : Cm Tryz.prog (Int × Bool) Int := ⟨141, fun t => [.v (.int .i64 t.1), .v (.bool t.2)], fun t => soft_tiny fu t.1 t.2, e141, fun t b h => ok141 fu t.1 t.2  b h, Zi⟩
theorem u141 {fu : Nat} {cp : CallP} (H : Hit cp (C141 fu).ct) : K141 fu cp := ⟨fun {a0 a1 r} h => (C141 fu).at H (a0, a1) r h⟩
structure K142 (fu : Nat) (cp : CallP) : Prop where
 ap : ∀ {a0 : Int} {a1 : Bool} {r}, soft_huge fu a0 a1 = some r → cp 142 [.v (.int .i64 a0), .v (.bool a1)] = some (.v (.int .u32 r))
noncomputable def C142 (fu : Nat) : Cm Tryz.prog (Int × Bool) Int := ⟨142, fun t => [.v (.int .i64 t.1), .v (.bool t.2)], fun t => soft_huge fu t.1 t.2, e142, fun t b h => ok142 fu t.1 t.2  b h, Zi⟩
theorem u142 {fu : Nat} {cp : CallP} (H : Hit cp (C142 fu).ct) : K142 fu cp := ⟨fun {a0 a1 r} h => (C142 fu).at H (a0, a1) r h⟩
def soft_Round.j3 : LJ 3 56 Unit Int := ⟨fun r t e => [(0, er e 0), (1, er e 1), (2, er e 2), (12, er e 12), (13, .v (.int .u64 t))], fun r t h => []⟩
def soft_Round.j4 : LJ 4 30 Unit Bool := ⟨fun r t e => [(0, er e 0), (1, er e 1), (2, er e 2), (3, er e 3), (4, er e 4), (11, er e 11), (12, er e 12), (13, er e 13), (14, .v (.bool t)), (15, er e 15), (16, er e 16), (17, er e 17), (18, er e 18)], fun r t h => []⟩
def soft_Round.j2 : LJ 2 42 Unit (Int × Bool × Bool × Bool) := ⟨fun r t e => [(0, er e 0), (1, er e 1), (2, er e 2), (12, er e 12), (13, .v (.int .u64 t.1)), (14, .v (.bool t.2.1)), (15, .v (.bool t.2.2.1)), (16, .v (.bool t.2.2.2))], fun r t h => []⟩
def soft_Round.j1 : LJ 1 16 Unit Unit := ⟨fun r t e => [(0, er e 0), (1, er e 1), (2, er e 2), (3, er e 3), (4, er e 4), (11, er e 11)], fun r t h => []⟩
set_option maxHeartbeats 20000000 in
open soft_Round in
theorem w70 (cp : CallP) (fu : Nat) (x1 : Int) (x2 : Bool) (x3 : Int) (x4 : Int) (x5 : Bool) (H1 : K140 fu cp) (H2 : K141 fu cp) (H3 : K139 fu cp) (H4 : K142 fu cp) : J (go Tryz.prog noC cp noI 0 [] d70 fu (fin Tryz.prog [.tmp 10] [24]) (bodyOf Tryz.f70) (initE 0 [.v (.int .i64 x1), .v (.bool x2), .v (.int .i64 x3), .v (.int .u64 x4), .v (.bool x5)]) [] []) (soft_Round fu x1 x2 x3 x4 x5) e70 := by
 unfold soft_Round e70
 have da := d70_at
 conv => arg 1; simp only [bodyOf, Tryz.f70]
 have z0 := d70_at
 exact Wk
theorem ok70 (fu : Nat) (x1 : Int) (x2 : Bool) (x3 : Int) (x4 : Int) (x5 : Bool) (r) (h : soft_Round fu x1 x2 x3 x4 x5 = some r) : PureOK Tryz.prog 70 [.v (.int .i64 x1), .v (.bool x2), .v (.int .i64 x3), .v (.int .u64 x4), .v (.bool x5)] (e70 r) := pureT mixed [(C140 fu).ct, (C141 fu).ct, (C139 fu).ct, (C142 fu).ct] (ids := [140, 141, 139, 142]) rfl (by decide) i70 (C := noC) (ci := fun cp => noI) (fun cp ok => noI_ok) (fun cp H => w70 cp fu x1 x2 x3 x4 x5 (u140 H.1) (u141 H.2.1) (u139 H.2.2.1) (u142 H.2.2.2.1)) h
open Aw (d36)
def d36_at := by have h := tabL Aw.d36.eq_1; simp only [AllAt, Nat.zero_add, Nat.reduceAdd] at h; exact h
theorem i36 : finfo Tryz.prog 36 d36 = some ⟨bodyOf Tryz.f36, [.tmp 6], [24]⟩ := finfo_at Tryz.func36 rfl (by kernel_rfl) (by kernel_rfl)
def e36 : Int → AV := fun r => .v (.int .u32 r)
structure K68 (fu : Nat) (cp : CallP) : Prop where
 ap : ∀ {a0 : Int} {r}, soft_open fu a0 = some r → cp 68 [.v (.int .u32 a0)] = some (.agg [.v (.bool r.fneg), .v (.bool r.fnan), .v (.bool r.finf), .v (.int .i64 r.fexp), .v (.int .u64 r.fsig)])
noncomputable def C68 (fu : Nat) : Cm Tryz.prog Int T_soft_number := ⟨68, fun t => [.v (.int .u32 t)], fun t => soft_open fu t, e68, fun t b h => ok68 fu t  b h, Zi⟩
theorem u68 {fu : Nat} {cp : CallP} (H : Hit cp (C68 fu).ct) : K68 fu cp := ⟨fun {a0 r} h => (C68 fu).at H a0 r h⟩
structure K69 (fu : Nat) (cp : CallP) : Prop where
 ap : ∀ {a0 : Int} {r}, soft_nought fu a0 = some r → cp 69 [.v (.int .i64 a0)] = some (.v (.int .u32 r))
noncomputable def C69 (fu : Nat) : Cm Tryz.prog Int Int := ⟨69, fun t => [.v (.int .i64 t)], fun t => soft_nought fu t, e69, fun t b h => ok69 fu t  b h, Zi⟩
theorem u69 {fu : Nat} {cp : CallP} (H : Hit cp (C69 fu).ct) : K69 fu cp := ⟨fun {a0 r} h => (C69 fu).at H a0 r h⟩
structure K70 (fu : Nat) (cp : CallP) : Prop where
 ap : ∀ {a0 : Int} {a1 : Bool} {a2 : Int} {a3 : Int} {a4 : Bool} {r}, soft_Round fu a0 a1 a2 a3 a4 = some r → cp 70 [.v (.int .i64 a0), .v (.bool a1), .v (.int .i64 a2), .v (.int .u64 a3), .v (.bool a4)] = some (.v (.int .u32 r))
noncomputable def C70 (fu : Nat) : Cm Tryz.prog (Int × Bool × Int × Int × Bool) Int := ⟨70, fun t => [.v (.int .i64 t.1), .v (.bool t.2.1), .v (.int .i64 t.2.2.1), .v (.int .u64 t.2.2.2.1), .v (.bool t.2.2.2.2)], fun t => soft_Round fu t.1 t.2.1 t.2.2.1 t.2.2.2.1 t.2.2.2.2, e70, fun t b h => ok70 fu t.1 t.2.1 t.2.2.1 t.2.2.2.1 t.2.2.2.2  b h, Zi⟩
theorem u70 {fu : Nat} {cp : CallP} (H : Hit cp (C70 fu).ct) : K70 fu cp := ⟨fun {a0 a1 a2 a3 a4 r} h => (C70 fu).at H (a0, a1, a2, a3, a4) r h⟩
def soft_AddBy.j3 : LJ 3 3 Unit (Int × Int × Int × Bool) := ⟨fun r t e => [(0, er e 0), (7, er e 7), (8, er e 8), (9, er e 9), (10, .v (.int .i64 t.1)), (11, .v (.int .u64 t.2.1)), (12, .v (.int .u64 t.2.2.1)), (13, .v (.bool t.2.2.2))], fun r t h => [((0, 7, 0), hr h (0, 7, 0)), ((0, 8, 0), hr h (0, 8, 0))]⟩
def soft_AddBy.j2 : LJ 2 28 Unit (Bool × Int × Int × Bool × Int × Int) := ⟨fun r t e => [(0, er e 0), (7, er e 7), (8, er e 8)], fun r t h => [((0, 7, 0), bs (bs (bs (hr h (0, 7, 0)) 0 (.v (.bool t.1))) 3 (.v (.int .i64 t.2.1))) 4 (.v (.int .u64 t.2.2.1))), ((0, 8, 0), bs (bs (bs (hr h (0, 8, 0)) 0 (.v (.bool t.2.2.2.1))) 3 (.v (.int .i64 t.2.2.2.2.1))) 4 (.v (.int .u64 t.2.2.2.2.2)))]⟩
def soft_AddBy.j1 : LJ 1 24 Unit Unit := ⟨fun r t e => [(0, er e 0), (7, er e 7), (8, er e 8)], fun r t h => [((0, 7, 0), bs (bs (hr h (0, 7, 0)) 1 (.v (.bool false))) 2 (.v (.bool false))), ((0, 8, 0), bs (bs (hr h (0, 8, 0)) 1 (.v (.bool false))) 2 (.v (.bool false)))]⟩
set_option maxHeartbeats 20000000 in
open soft_AddBy in
theorem w36 (cp : CallP) (fu : Nat) (x1 : Int) (x2 : Int) (x3 : Int) (H1 : K68 fu cp) (H2 : K69 fu cp) (H3 : K70 fu cp) : J (go Tryz.prog noC cp noI 0 [] d36 fu (fin Tryz.prog [.tmp 6] [24]) (bodyOf Tryz.f36) (initE 0 [.v (.int .i64 x1), .v (.int .u32 x2), .v (.int .u32 x3)]) [] []) (soft_AddBy fu x1 x2 x3) e36 := by
 unfold soft_AddBy e36
 have da := d36_at
 conv => arg 1; simp only [bodyOf, Tryz.f36]
 have z0 := d36_at
 exact Wk
theorem ok36 (fu : Nat) (x1 : Int) (x2 : Int) (x3 : Int) (r) (h : soft_AddBy fu x1 x2 x3 = some r) : PureOK Tryz.prog 36 [.v (.int .i64 x1), .v (.int .u32 x2), .v (.int .u32 x3)] (e36 r) := pureT mixed [(C68 fu).ct, (C69 fu).ct, (C70 fu).ct] (ids := [68, 69, 70]) rfl (by decide) i36 (C := noC) (ci := fun cp => noI) (fun cp ok => noI_ok) (fun cp H => w36 cp fu x1 x2 x3 (u68 H.1) (u69 H.2.1) (u70 H.2.2.1)) h
open Aw (d18)
def d18_at := by have h := tabL Aw.d18.eq_1; simp only [AllAt, Nat.zero_add, Nat.reduceAdd] at h; exact h
theorem i18 : finfo Tryz.prog 18 d18 = some ⟨bodyOf Tryz.f18, [.tmp 4], [24]⟩ := finfo_at Tryz.func18 rfl (by kernel_rfl) (by kernel_rfl)
def e18 : Int → AV := fun r => .v (.int .u32 r)
structure K36 (fu : Nat) (cp : CallP) : Prop where
 ap : ∀ {a0 : Int} {a1 : Int} {a2 : Int} {r}, soft_AddBy fu a0 a1 a2 = some r → cp 36 [.v (.int .i64 a0), .v (.int .u32 a1), .v (.int .u32 a2)] = some (.v (.int .u32 r))
noncomputable def C36 (fu : Nat) : Cm Tryz.prog (Int × Int × Int) Int := ⟨36, fun t => [.v (.int .i64 t.1), .v (.int .u32 t.2.1), .v (.int .u32 t.2.2)], fun t => soft_AddBy fu t.1 t.2.1 t.2.2, e36, fun t b h => ok36 fu t.1 t.2.1 t.2.2  b h, Zi⟩
theorem u36 {fu : Nat} {cp : CallP} (H : Hit cp (C36 fu).ct) : K36 fu cp := ⟨fun {a0 a1 a2 r} h => (C36 fu).at H (a0, a1, a2) r h⟩
set_option maxHeartbeats 20000000 in
theorem w18 (cp : CallP) (fu : Nat) (x1 : Int) (x2 : Int) (H1 : K36 fu cp) : J (go Tryz.prog noC cp noI 0 [] d18 fu (fin Tryz.prog [.tmp 4] [24]) (bodyOf Tryz.f18) (initE 0 [.v (.int .u32 x1), .v (.int .u32 x2)]) [] []) (soft_Add fu x1 x2) e18 := by
 unfold soft_Add e18
 have da := d18_at
 conv => arg 1; simp only [bodyOf, Tryz.f18]
 have z0 := d18_at
 exact Wk
theorem ok18 (fu : Nat) (x1 : Int) (x2 : Int) (r) (h : soft_Add fu x1 x2 = some r) : PureOK Tryz.prog 18 [.v (.int .u32 x1), .v (.int .u32 x2)] (e18 r) := pureT mixed [(C36 fu).ct] (ids := [36]) rfl (by decide) i18 (C := noC) (ci := fun cp => noI) (fun cp ok => noI_ok) (fun cp H => w18 cp fu x1 x2 (u36 H.1)) h
open Aw (d9)
def d9_at := by have h := tabL Aw.d9.eq_1; simp only [AllAt, Nat.zero_add, Nat.reduceAdd] at h; exact h
theorem i9 : finfo Tryz.prog 9 d9 = some ⟨bodyOf Tryz.f9, [.tmp 2], [24]⟩ := finfo_at Tryz.func9 rfl (by kernel_rfl) (by kernel_rfl)
def e9 : Int → AV := fun r => .v (.int .u32 r)
structure K17 (fu : Nat) (cp : CallP) : Prop where
 ap : ∀ {a0 : List Int} {a1 : Int} {r}, reduce_fold_uint32 fu a0 a1 (fun y0 y1 => soft_Add fu y0 y1) = some r → cp 17 [.arr a0.length (lm (ik .u32) a0), .v (.int .u32 a1), .fn 18 [] []] = some (.v (.int .u32 r))
noncomputable def C17 (fu : Nat) : Cm Tryz.prog ((List Int) × Int) Int := ⟨17, fun t => [.arr t.1.length (lm (ik .u32) t.1), .v (.int .u32 t.2), .fn 18 [] []], fun t => reduce_fold_uint32 fu t.1 t.2 (fun y0 y1 => soft_Add fu y0 y1), e17, fun t b h => ok17 fu t.1 t.2 (fun y0 y1 => soft_Add fu y0 y1) 18 [] Capt.nil (fun y0 y1 r h => ok18 fu y0 y1  r h) b h, Zi⟩
theorem u17 {fu : Nat} {cp : CallP} (H : Hit cp (C17 fu).ct) : K17 fu cp := ⟨fun {a0 a1 r} h => (C17 fu).at H (a0, a1) r h⟩
set_option maxHeartbeats 20000000 in
theorem w9 (cp : CallP) (fu : Nat) (x1 : List Int) (H1 : K17 fu cp) : J (go Tryz.prog noC cp noI 0 [] d9 fu (fin Tryz.prog [.tmp 2] [24]) (bodyOf Tryz.f9) (initE 0 [.arr x1.length (lm (ik .u32) x1)]) [] []) (reduce_Sum fu x1) e9 := by
 unfold reduce_Sum e9
 have da := d9_at
 conv => arg 1; simp only [bodyOf, Tryz.f9]
 have z0 := d9_at
 exact Wk
theorem ok9 (fu : Nat) (x1 : List Int) (r) (h : reduce_Sum fu x1 = some r) : PureOK Tryz.prog 9 [.arr x1.length (lm (ik .u32) x1)] (e9 r) := pureT mixed [(C17 fu).ct] (ids := [17]) rfl (by decide) i9 (C := noC) (ci := fun cp => noI) (fun cp ok => noI_ok) (fun cp H => w9 cp fu x1 (u17 H.1)) h
def d72 : List (Nat × List Nat) := [(0, [2]), (0, []), (0, [0, 3, 4])]
def d72_at := by have h := tabL d72.eq_1; simp only [AllAt, Nat.zero_add, Nat.reduceAdd] at h; exact h
theorem i72 : finfo Tryz.prog 72 d72 = some ⟨bodyOf Tryz.f72, [.tmp 2], [24]⟩ := finfo_at Tryz.func72 rfl (by kernel_rfl) (by kernel_rfl)
def e72 : Int → AV := fun r => .v (.int .u32 r)
set_option maxHeartbeats 20000000 in
theorem w72 (cp : CallP) (fu : Nat) (x1 : Int)  : J (go Tryz.prog noC cp noI 0 [] d72 fu (fin Tryz.prog [.tmp 2] [24]) (bodyOf Tryz.f72) (initE 0 [.v (.int .u32 x1)]) [] []) (ref01_Abs fu x1) e72 := by
 unfold ref01_Abs e72
 have da := d72_at
 conv => arg 1; simp only [bodyOf, Tryz.f72]
 have z0 := d72_at
 exact Wk
theorem ok72 (fu : Nat) (x1 : Int) (r) (h : ref01_Abs fu x1 = some r) : PureOK Tryz.prog 72 [.v (.int .u32 x1)] (e72 r) := pureT mixed [] (ids := []) rfl (by decide) i72 (C := noC) (ci := fun cp => noI) (fun cp ok => noI_ok) (fun cp H => w72 cp fu x1 ) h
def d71 : List (Nat × List Nat) := [(0, [2]), (0, []), (0, [0, 3, 4, 5])]
def d71_at := by have h := tabL d71.eq_1; simp only [AllAt, Nat.zero_add, Nat.reduceAdd] at h; exact h
theorem i71 : finfo Tryz.prog 71 d71 = some ⟨bodyOf Tryz.f71, [.tmp 2], [4]⟩ := finfo_at Tryz.func71 rfl (by kernel_rfl) (by kernel_rfl)
def e71 : Bool → AV := fun r => .v (.bool r)
structure K72 (fu : Nat) (cp : CallP) : Prop where
 ap : ∀ {a0 : Int} {r}, ref01_Abs fu a0 = some r → cp 72 [.v (.int .u32 a0)] = some (.v (.int .u32 r))
noncomputable def C72 (fu : Nat) : Cm Tryz.prog Int Int := ⟨72, fun t => [.v (.int .u32 t)], fun t => ref01_Abs fu t, e72, fun t b h => ok72 fu t  b h, Zi⟩
theorem u72 {fu : Nat} {cp : CallP} (H : Hit cp (C72 fu).ct) : K72 fu cp := ⟨fun {a0 r} h => (C72 fu).at H a0 r h⟩
set_option maxHeartbeats 20000000 in
theorem w71 (cp : CallP) (fu : Nat) (x1 : Int) (H1 : K72 fu cp) : J (go Tryz.prog noC cp noI 0 [] d71 fu (fin Tryz.prog [.tmp 2] [4]) (bodyOf Tryz.f71) (initE 0 [.v (.int .u32 x1)]) [] []) (ref01_IsNone fu x1) e71 := by
 unfold ref01_IsNone e71
 have da := d71_at
 conv => arg 1; simp only [bodyOf, Tryz.f71]
 have z0 := d71_at
 exact Wk
theorem ok71 (fu : Nat) (x1 : Int) (r) (h : ref01_IsNone fu x1 = some r) : PureOK Tryz.prog 71 [.v (.int .u32 x1)] (e71 r) := pureT mixed [(C72 fu).ct] (ids := [72]) rfl (by decide) i71 (C := noC) (ci := fun cp => noI) (fun cp ok => noI_ok) (fun cp H => w71 cp fu x1 (u72 H.1)) h
def d147 : List (Nat × List Nat) := [(0, [2]), (0, []), (0, [4, 5]), (0, []), (0, [6, 7, 8, 9, 10, 11, 12, 13, 14]), (0, []), (0, [16, 17]), (0, []), (0, [0, 3, 18, 19, 20])]
def d147_at := by have h := tabL d147.eq_1; simp only [AllAt, Nat.zero_add, Nat.reduceAdd] at h; exact h
theorem i147 : finfo Tryz.prog 147 d147 = some ⟨bodyOf Tryz.f147, [.tmp 2], [97]⟩ := finfo_at Tryz.func147 rfl (by kernel_rfl) (by kernel_rfl)
def e147 : (List Int) → AV := fun r => .arr r.length (lm (ik .u32) r)
def ref01_trim.m1 : LJ 1 4 Unit Int := ⟨fun r s e => [(0, er e 0), (3, .v (.int .i64 s))], fun r s h => []⟩
set_option maxHeartbeats 20000000 in
open ref01_trim in
theorem w147 (cp : CallP) (fu : Nat) (x1 : List Int)  : J (go Tryz.prog noC cp noI 0 [] d147 fu (fin Tryz.prog [.tmp 2] [97]) (bodyOf Tryz.f147) (initE 0 [.arr x1.length (lm (ik .u32) x1)]) [] []) (ref01_trim fu x1) e147 := by
 unfold ref01_trim e147
 have da := d147_at
 conv => arg 1; simp only [bodyOf, Tryz.f147]
 have z0 := d147_at
 exact Wk
theorem ok147 (fu : Nat) (x1 : List Int) (r) (h : ref01_trim fu x1 = some r) : PureOK Tryz.prog 147 [.arr x1.length (lm (ik .u32) x1)] (e147 r) := pureT mixed [] (ids := []) rfl (by decide) i147 (C := noC) (ci := fun cp => noI) (fun cp ok => noI_ok) (fun cp H => w147 cp fu x1 ) h
def d77 : List (Nat × List Nat) := [(0, [2]), (0, []), (0, [0, 3, 4, 5, 6, 7, 8, 9, 10])]
def d77_at := by have h := tabL d77.eq_1; simp only [AllAt, Nat.zero_add, Nat.reduceAdd] at h; exact h
theorem i77 : finfo Tryz.prog 77 d77 = some ⟨bodyOf Tryz.f77, [.tmp 2], [97]⟩ := finfo_at Tryz.func77 rfl (by kernel_rfl) (by kernel_rfl)
def e77 : (List Int) → AV := fun r => .arr r.length (lm (ik .u32) r)
structure K147 (fu : Nat) (cp : CallP) : Prop where
 ap : ∀ {a0 : List Int} {r}, ref01_trim fu a0 = some r → cp 147 [.arr a0.length (lm (ik .u32) a0)] = some (.arr r.length (lm (ik .u32) r))
noncomputable def C147 (fu : Nat) : Cm Tryz.prog (List Int) (List Int) := ⟨147, fun t => [.arr t.length (lm (ik .u32) t)], fun t => ref01_trim fu t, e147, fun t b h => ok147 fu t  b h, Zi⟩
theorem u147 {fu : Nat} {cp : CallP} (H : Hit cp (C147 fu).ct) : K147 fu cp := ⟨fun {a0 r} h => (C147 fu).at H a0 r h⟩
set_option maxHeartbeats 20000000 in
theorem w77 (cp : CallP) (fu : Nat) (x1 : Int) (H1 : K147 fu cp) : J (go Tryz.prog noC cp noI 0 [] d77 fu (fin Tryz.prog [.tmp 2] [97]) (bodyOf Tryz.f77) (initE 0 [.v (.int .u64 x1)]) [] []) (ref01_Of fu x1) e77 := by
 unfold ref01_Of e77
 have da := d77_at
 conv => arg 1; simp only [bodyOf, Tryz.f77]
 have z0 := d77_at
 exact Wk
theorem ok77 (fu : Nat) (x1 : Int) (r) (h : ref01_Of fu x1 = some r) : PureOK Tryz.prog 77 [.v (.int .u64 x1)] (e77 r) := pureT mixed [(C147 fu).ct] (ids := [147]) rfl (by decide) i77 (C := noC) (ci := fun cp => noI) (fun cp ok => noI_ok) (fun cp H => w77 cp fu x1 (u147 H.1)) h
def d144 : List (Nat × List Nat) := [(0, [4]), (0, [6]), (0, [1000005]), (0, []), (0, []), (0, [0, 1, 8]), (0, [10, 11, 12]), (0, []), (0, [14, 15]), (0, []), (0, [16, 17, 18]), (0, []), (0, []), (0, []), (0, []), (0, []), (0, [19, 20, 21]), (0, []), (0, [23, 24]), (0, []), (0, [25, 26, 27, 28, 29, 30, 31, 32, 33, 34]), (0, []), (0, [35, 36, 37, 38, 39, 40]), (0, []), (0, [9, 41, 42]), (0, []), (0, [5, 7, 43, 44, 45, 46, 47, 48])]
def d144_at := by have h := tabL d144.eq_1; simp only [AllAt, Nat.zero_add, Nat.reduceAdd] at h; exact h
theorem i144 : finfo Tryz.prog 144 d144 = some ⟨bodyOf Tryz.f144, [.tmp 4], [97]⟩ := finfo_at Tryz.func144 rfl (by kernel_rfl) (by kernel_rfl)
def e144 : (List Int) → AV := fun r => .arr r.length (lm (ik .u32) r)
def ref01_Twice.m1 : LJ 1 16 Unit ((List Int) × Int × Int) := ⟨fun r s e => [(0, er e 0), (1, er e 1), (5, .own (0, 5, 77) 0 s.1.length s.1.length), (7, .v (.int .u64 s.2.1)), (8, .v (.int .i64 s.2.2))], fun r s h => [((0, 5, 77), .sl true true 1 s.1.length (lm (ik .u32) s.1))]⟩
def ref01_Twice.j2 : LJ 2 26 Unit ((List Int) × Int) := ⟨fun r t e => [(5, .own (0, 5, 77) 0 t.1.length t.1.length), (7, .v (.int .u64 t.2))], fun r t h => [((0, 5, 77), .sl true true 1 t.1.length (lm (ik .u32) t.1))]⟩
def ref01_Twice.m2 : LJ 2 6 Unit ((List Int) × Int) := ⟨fun r s e => [(0, er e 0), (1, er e 1), (5, .own (0, 5, 77) 0 s.1.length s.1.length), (6, .v (.int .i64 s.2))], fun r s h => [((0, 5, 77), .sl true true 1 s.1.length (lm (ik .u32) s.1))]⟩
def ref01_Twice.j1 : LJ 1 12 Unit (List Int) := ⟨fun r t e => [(0, er e 0), (1, er e 1), (5, .own (0, 5, 77) 0 t.length t.length)], fun r t h => [((0, 5, 77), .sl true true 1 t.length (lm (ik .u32) t))]⟩
set_option maxHeartbeats 20000000 in
open ref01_Twice in
theorem w144 (cp : CallP) (fu : Nat) (x1 : List Int) (x2 : Int) (H1 : K147 fu cp) : J (go Tryz.prog noC cp noI 0 [] d144 fu (fin Tryz.prog [.tmp 4] [97]) (bodyOf Tryz.f144) (initE 0 [.arr x1.length (lm (ik .u32) x1), .v (.int .i64 x2)]) [] []) (ref01_Twice fu x1 x2) e144 := by
 unfold ref01_Twice e144
 have da := d144_at
 conv => arg 1; simp only [bodyOf, Tryz.f144]
 have z0 := d144_at
 exact Wk
theorem ok144 (fu : Nat) (x1 : List Int) (x2 : Int) (r) (h : ref01_Twice fu x1 x2 = some r) : PureOK Tryz.prog 144 [.arr x1.length (lm (ik .u32) x1), .v (.int .i64 x2)] (e144 r) := pureT mixed [(C147 fu).ct] (ids := [147]) rfl (by decide) i144 (C := noC) (ci := fun cp => noI) (fun cp ok => noI_ok) (fun cp H => w144 cp fu x1 x2 (u147 H.1)) h
def d73 : List (Nat × List Nat) := [(0, [2]), (0, []), (0, [5, 6, 7]), (0, []), (0, [0, 8, 9, 10]), (0, []), (0, [11]), (0, []), (0, [13, 14]), (0, []), (0, [3, 4, 15, 16, 17, 18, 19, 20])]
def d73_at := by have h := tabL d73.eq_1; simp only [AllAt, Nat.zero_add, Nat.reduceAdd] at h; exact h
theorem i73 : finfo Tryz.prog 73 d73 = some ⟨bodyOf Tryz.f73, [.tmp 2], [97]⟩ := finfo_at Tryz.func73 rfl (by kernel_rfl) (by kernel_rfl)
def e73 : (List Int) → AV := fun r => .arr r.length (lm (ik .u32) r)
structure K77 (fu : Nat) (cp : CallP) : Prop where
 ap : ∀ {a0 : Int} {r}, ref01_Of fu a0 = some r → cp 77 [.v (.int .u64 a0)] = some (.arr r.length (lm (ik .u32) r))
noncomputable def C77 (fu : Nat) : Cm Tryz.prog Int (List Int) := ⟨77, fun t => [.v (.int .u64 t)], fun t => ref01_Of fu t, e77, fun t b h => ok77 fu t  b h, Zi⟩
theorem u77 {fu : Nat} {cp : CallP} (H : Hit cp (C77 fu).ct) : K77 fu cp := ⟨fun {a0 r} h => (C77 fu).at H a0 r h⟩
structure K144 (fu : Nat) (cp : CallP) : Prop where
 ap : ∀ {a0 : List Int} {a1 : Int} {r}, ref01_Twice fu a0 a1 = some r → cp 144 [.arr a0.length (lm (ik .u32) a0), .v (.int .i64 a1)] = some (.arr r.length (lm (ik .u32) r))
noncomputable def C144 (fu : Nat) : Cm Tryz.prog ((List Int) × Int) (List Int) := ⟨144, fun t => [.arr t.1.length (lm (ik .u32) t.1), .v (.int .i64 t.2)], fun t => ref01_Twice fu t.1 t.2, e144, fun t b h => ok144 fu t.1 t.2  b h, Zi⟩
theorem u144 {fu : Nat} {cp : CallP} (H : Hit cp (C144 fu).ct) : K144 fu cp := ⟨fun {a0 a1 r} h => (C144 fu).at H (a0, a1) r h⟩
set_option maxHeartbeats 20000000 in
theorem w73 (cp : CallP) (fu : Nat) (x1 : Int) (H1 : K77 fu cp) (H2 : K144 fu cp) : J (go Tryz.prog noC cp noI 0 [] d73 fu (fin Tryz.prog [.tmp 2] [97]) (bodyOf Tryz.f73) (initE 0 [.v (.int .u32 x1)]) [] []) (ref01_Amount fu x1) e73 := by
 unfold ref01_Amount e73
 have da := d73_at
 conv => arg 1; simp only [bodyOf, Tryz.f73]
 have z0 := d73_at
 exact Wk
theorem ok73 (fu : Nat) (x1 : Int) (r) (h : ref01_Amount fu x1 = some r) : PureOK Tryz.prog 73 [.v (.int .u32 x1)] (e73 r) := pureT mixed [(C77 fu).ct, (C144 fu).ct] (ids := [77, 144]) rfl (by decide) i73 (C := noC) (ci := fun cp => noI) (fun cp ok => noI_ok) (fun cp H => w73 cp fu x1 (u77 H.1) (u144 H.2.1)) h
def d74 : List (Nat × List Nat) := [(0, [2]), (0, []), (0, [0, 3, 4])]
def d74_at := by have h := tabL d74.eq_1; simp only [AllAt, Nat.zero_add, Nat.reduceAdd] at h; exact h
theorem i74 : finfo Tryz.prog 74 d74 = some ⟨bodyOf Tryz.f74, [.tmp 2], [4]⟩ := finfo_at Tryz.func74 rfl (by kernel_rfl) (by kernel_rfl)
def e74 : Bool → AV := fun r => .v (.bool r)
set_option maxHeartbeats 20000000 in
theorem w74 (cp : CallP) (fu : Nat) (x1 : Int)  : J (go Tryz.prog noC cp noI 0 [] d74 fu (fin Tryz.prog [.tmp 2] [4]) (bodyOf Tryz.f74) (initE 0 [.v (.int .u32 x1)]) [] []) (ref01_Below fu x1) e74 := by
 unfold ref01_Below e74
 have da := d74_at
 conv => arg 1; simp only [bodyOf, Tryz.f74]
 have z0 := d74_at
 exact Wk
theorem ok74 (fu : Nat) (x1 : Int) (r) (h : ref01_Below fu x1 = some r) : PureOK Tryz.prog 74 [.v (.int .u32 x1)] (e74 r) := pureT mixed [] (ids := []) rfl (by decide) i74 (C := noC) (ci := fun cp => noI) (fun cp ok => noI_ok) (fun cp H => w74 cp fu x1 ) h
def d76 : List (Nat × List Nat) := [(0, [4]), (0, [0, 1, 6, 7]), (0, [1000005]), (0, []), (0, []), (0, []), (0, []), (0, []), (0, [9, 10, 11, 12, 13, 14, 15, 16, 17, 18, 19, 20, 21]), (0, []), (0, [23, 24]), (0, []), (0, [25]), (0, []), (0, [26, 27, 28]), (0, []), (0, [30, 31, 32, 33, 34, 35, 36]), (0, []), (0, [37, 38, 39]), (0, []), (0, [41, 42, 43, 44, 45, 46, 47]), (0, []), (0, [48, 49, 50, 51, 52, 53]), (0, []), (0, [8, 54, 55]), (0, []), (0, [5, 56, 57])]
def d76_at := by have h := tabL d76.eq_1; simp only [AllAt, Nat.zero_add, Nat.reduceAdd] at h; exact h
theorem i76 : finfo Tryz.prog 76 d76 = some ⟨bodyOf Tryz.f76, [.tmp 4], [97]⟩ := finfo_at Tryz.func76 rfl (by kernel_rfl) (by kernel_rfl)
def e76 : (List Int) → AV := fun r => .arr r.length (lm (ik .u32) r)
def ref01_Plus.j4 : LJ 4 22 Unit Int := ⟨fun r t e => [(0, er e 0), (1, er e 1), (5, er e 5), (6, er e 6), (7, er e 7), (8, .v (.int .u64 t))], fun r t h => [((0, 5, 77), hr h (0, 5, 77))]⟩
def ref01_Plus.j3 : LJ 3 18 Unit Int := ⟨fun r t e => [(0, er e 0), (1, er e 1), (5, er e 5), (6, er e 6), (7, er e 7), (8, .v (.int .u64 t))], fun r t h => [((0, 5, 77), hr h (0, 5, 77))]⟩
def ref01_Plus.j2 : LJ 2 3 Unit Unit := ⟨fun r t e => [(0, er e 0), (1, er e 1), (5, er e 5), (6, er e 6), (7, er e 7)], fun r t h => [((0, 5, 77), hr h (0, 5, 77))]⟩
def ref01_Plus.m1 : LJ 1 8 Unit ((List Int) × Int × Int) := ⟨fun r s e => [(0, er e 0), (1, er e 1), (5, .own (0, 5, 77) 0 s.1.length s.1.length), (6, .v (.int .u64 s.2.1)), (7, .v (.int .i64 s.2.2))], fun r s h => [((0, 5, 77), .sl true true 1 s.1.length (lm (ik .u32) s.1))]⟩
def ref01_Plus.j1 : LJ 1 26 Unit (List Int) := ⟨fun r t e => [(5, .own (0, 5, 77) 0 t.length t.length)], fun r t h => [((0, 5, 77), .sl true true 1 t.length (lm (ik .u32) t))]⟩
set_option maxHeartbeats 20000000 in
open ref01_Plus in
theorem w76 (cp : CallP) (fu : Nat) (x1 : List Int) (x2 : List Int) (H1 : K147 fu cp) : J (go Tryz.prog noC cp noI 0 [] d76 fu (fin Tryz.prog [.tmp 4] [97]) (bodyOf Tryz.f76) (initE 0 [.arr x1.length (lm (ik .u32) x1), .arr x2.length (lm (ik .u32) x2)]) [] []) (ref01_Plus fu x1 x2) e76 := by
 unfold ref01_Plus e76
 have da := d76_at
 conv => arg 1; simp only [bodyOf, Tryz.f76]
 have z0 := d76_at
 exact Wk
theorem ok76 (fu : Nat) (x1 : List Int) (x2 : List Int) (r) (h : ref01_Plus fu x1 x2 = some r) : PureOK Tryz.prog 76 [.arr x1.length (lm (ik .u32) x1), .arr x2.length (lm (ik .u32) x2)] (e76 r) := pureT mixed [(C147 fu).ct] (ids := [147]) rfl (by decide) i76 (C := noC) (ci := fun cp => noI) (fun cp ok => noI_ok) (fun cp H => w76 cp fu x1 x2 (u147 H.1)) h
def d146 : List (Nat × List Nat) := [(0, [4]), (0, [0, 1, 6]), (0, [10, 11, 12, 13, 14, 15]), (0, []), (0, []), (0, [8]), (0, [16, 17, 18]), (0, []), (0, [20, 21]), (0, []), (0, []), (0, []), (0, []), (0, []), (0, [22, 23, 24]), (0, []), (0, [26, 27]), (0, []), (22, [28, 29, 30, 31, 32, 33, 34, 35, 36, 37, 38, 39, 40, 41, 42, 43, 44, 45, 46, 47, 48]), (0, []), (0, [49, 50, 51, 52, 53, 54, 55, 56]), (0, []), (0, [9, 57, 58]), (0, []), (0, [7, 59, 60, 61, 62, 63, 64, 65, 66]), (0, []), (0, [5, 67, 68])]
def d146_at := by have h := tabL d146.eq_1; simp only [AllAt, Nat.zero_add, Nat.reduceAdd] at h; exact h
theorem i146 : finfo Tryz.prog 146 d146 = some ⟨bodyOf Tryz.f146, [.tmp 4], [97]⟩ := finfo_at Tryz.func146 rfl (by kernel_rfl) (by kernel_rfl)
def e146 : (List Int) → AV := fun r => .arr r.length (lm (ik .u32) r)
def ref01_Times.m2 : LJ 2 14 Unit ((List Int) × Int × Int) := ⟨fun r s e => [(0, er e 0), (1, er e 1), (5, .own (0, 15, 0) 0 s.1.length s.1.length), (6, er e 6), (7, .v (.int .u64 s.2.1)), (8, .v (.int .i64 s.2.2))], fun r s h => [((0, 15, 0), .sl true true 1 s.1.length (lm (ik .u32) s.1))]⟩
def ref01_Times.j2 : LJ 2 24 Unit ((List Int) × Int) := ⟨fun r t e => [(0, er e 0), (1, er e 1), (5, .own (0, 15, 0) 0 t.1.length t.1.length), (6, er e 6), (7, .v (.int .u64 t.2))], fun r t h => [((0, 15, 0), .sl true true 1 t.1.length (lm (ik .u32) t.1))]⟩
def ref01_Times.m1 : LJ 1 6 Unit ((List Int) × Int) := ⟨fun r s e => [(0, er e 0), (1, er e 1), (5, .own (0, 15, 0) 0 s.1.length s.1.length), (6, .v (.int .i64 s.2))], fun r s h => [((0, 15, 0), .sl true true 1 s.1.length (lm (ik .u32) s.1))]⟩
def ref01_Times.j1 : LJ 1 26 Unit (List Int) := ⟨fun r t e => [(5, .own (0, 15, 0) 0 t.length t.length)], fun r t h => [((0, 15, 0), .sl true true 1 t.length (lm (ik .u32) t))]⟩
set_option maxHeartbeats 20000000 in
open ref01_Times in
theorem w146 (cp : CallP) (fu : Nat) (x1 : List Int) (x2 : List Int) (H1 : K147 fu cp) : J (go Tryz.prog noC cp noI 0 [] d146 fu (fin Tryz.prog [.tmp 4] [97]) (bodyOf Tryz.f146) (initE 0 [.arr x1.length (lm (ik .u32) x1), .arr x2.length (lm (ik .u32) x2)]) [] []) (ref01_Times fu x1 x2) e146 := by
 unfold ref01_Times e146
 have da := d146_at
 conv => arg 1; simp only [bodyOf, Tryz.f146]
 have z0 := d146_at
 exact Wk
theorem ok146 (fu : Nat) (x1 : List Int) (x2 : List Int) (r) (h : ref01_Times fu x1 x2 = some r) : PureOK Tryz.prog 146 [.arr x1.length (lm (ik .u32) x1), .arr x2.length (lm (ik .u32) x2)] (e146 r) := pureT mixed [(C147 fu).ct] (ids := [147]) rfl (by decide) i146 (C := noC) (ci := fun cp => noI) (fun cp ok => noI_ok) (fun cp H => w146 cp fu x1 x2 (u147 H.1)) h
def d78 : List (Nat × List Nat) := [(0, [4]), (0, [0, 1, 5]), (0, [6, 7, 8, 9]), (0, []), (0, [11, 12, 13, 14]), (0, []), (0, []), (0, []), (0, []), (0, []), (0, [16, 17, 18]), (0, []), (0, [19]), (0, []), (0, [21, 22]), (0, []), (9, [23, 24, 25, 26, 27, 28, 29, 30]), (0, []), (0, []), (0, []), (9, [32, 33, 34, 35, 36, 37, 38, 39]), (0, []), (0, []), (0, []), (0, [])]
def d78_at := by have h := tabL d78.eq_1; simp only [AllAt, Nat.zero_add, Nat.reduceAdd] at h; exact h
theorem i78 : finfo Tryz.prog 78 d78 = some ⟨bodyOf Tryz.f78, [.tmp 4], [3]⟩ := finfo_at Tryz.func78 rfl (by kernel_rfl) (by kernel_rfl)
def e78 : Int → AV := fun r => .v (.int .i64 r)
def ref01_Compare.m1 : LJ 1 12 Unit Int := ⟨fun r s e => [(0, er e 0), (1, er e 1), (5, .v (.int .i64 s))], fun r s h => []⟩
set_option maxHeartbeats 20000000 in
open ref01_Compare in
theorem w78 (cp : CallP) (fu : Nat) (x1 : List Int) (x2 : List Int)  : J (go Tryz.prog noC cp noI 0 [] d78 fu (fin Tryz.prog [.tmp 4] [3]) (bodyOf Tryz.f78) (initE 0 [.arr x1.length (lm (ik .u32) x1), .arr x2.length (lm (ik .u32) x2)]) [] []) (ref01_Compare fu x1 x2) e78 := by
 unfold ref01_Compare e78
 have da := d78_at
 conv => arg 1; simp only [bodyOf, Tryz.f78]
 have z0 := d78_at
 exact Wk
theorem ok78 (fu : Nat) (x1 : List Int) (x2 : List Int) (r) (h : ref01_Compare fu x1 x2 = some r) : PureOK Tryz.prog 78 [.arr x1.length (lm (ik .u32) x1), .arr x2.length (lm (ik .u32) x2)] (e78 r) := pureT mixed [] (ids := []) rfl (by decide) i78 (C := noC) (ci := fun cp => noI) (fun cp ok => noI_ok) (fun cp H => w78 cp fu x1 x2 ) h
def d145 : List (Nat × List Nat) := [(0, [4]), (0, [0, 1, 6]), (0, []), (0, [7]), (0, []), (0, []), (0, [8, 9, 10]), (0, []), (0, [12, 13, 14, 15, 16, 17]), (0, []), (0, [18, 19, 20, 21, 22, 23]), (0, []), (0, [25]), (0, []), (0, [26]), (0, []), (0, [5, 27])]
def d145_at := by have h := tabL d145.eq_1; simp only [AllAt, Nat.zero_add, Nat.reduceAdd] at h; exact h
theorem i145 : finfo Tryz.prog 145 d145 = some ⟨bodyOf Tryz.f145, [.tmp 4], [24]⟩ := finfo_at Tryz.func145 rfl (by kernel_rfl) (by kernel_rfl)
def e145 : Int → AV := fun r => .v (.int .u32 r)
structure K73 (fu : Nat) (cp : CallP) : Prop where
 ap : ∀ {a0 : Int} {r}, ref01_Amount fu a0 = some r → cp 73 [.v (.int .u32 a0)] = some (.arr r.length (lm (ik .u32) r))
noncomputable def C73 (fu : Nat) : Cm Tryz.prog Int (List Int) := ⟨73, fun t => [.v (.int .u32 t)], fun t => ref01_Amount fu t, e73, fun t b h => ok73 fu t  b h, Zi⟩
theorem u73 {fu : Nat} {cp : CallP} (H : Hit cp (C73 fu).ct) : K73 fu cp := ⟨fun {a0 r} h => (C73 fu).at H a0 r h⟩
structure K146 (fu : Nat) (cp : CallP) : Prop where
 ap : ∀ {a0 : List Int} {a1 : List Int} {r}, ref01_Times fu a0 a1 = some r → cp 146 [.arr a0.length (lm (ik .u32) a0), .arr a1.length (lm (ik .u32) a1)] = some (.arr r.length (lm (ik .u32) r))
noncomputable def C146 (fu : Nat) : Cm Tryz.prog ((List Int) × (List Int)) (List Int) := ⟨146, fun t => [.arr t.1.length (lm (ik .u32) t.1), .arr t.2.length (lm (ik .u32) t.2)], fun t => ref01_Times fu t.1 t.2, e146, fun t b h => ok146 fu t.1 t.2  b h, Zi⟩
theorem u146 {fu : Nat} {cp : CallP} (H : Hit cp (C146 fu).ct) : K146 fu cp := ⟨fun {a0 a1 r} h => (C146 fu).at H (a0, a1) r h⟩
structure K78 (fu : Nat) (cp : CallP) : Prop where
 ap : ∀ {a0 : List Int} {a1 : List Int} {r}, ref01_Compare fu a0 a1 = some r → cp 78 [.arr a0.length (lm (ik .u32) a0), .arr a1.length (lm (ik .u32) a1)] = some (.v (.int .i64 r))
noncomputable def C78 (fu : Nat) : Cm Tryz.prog ((List Int) × (List Int)) Int := ⟨78, fun t => [.arr t.1.length (lm (ik .u32) t.1), .arr t.2.length (lm (ik .u32) t.2)], fun t => ref01_Compare fu t.1 t.2, e78, fun t b h => ok78 fu t.1 t.2  b h, Zi⟩
theorem u78 {fu : Nat} {cp : CallP} (H : Hit cp (C78 fu).ct) : K78 fu cp := ⟨fun {a0 a1 r} h => (C78 fu).at H (a0, a1) r h⟩
def ref01_least.m1 : LJ 1 6 Unit (Int × Int) := ⟨fun r s e => [(0, er e 0), (1, er e 1), (5, .v (.int .u32 s.1)), (6, .v (.int .u32 s.2))], fun r s h => []⟩
set_option maxHeartbeats 20000000 in
open ref01_least in
theorem w145 (cp : CallP) (fu : Nat) (x1 : List Int) (x2 : List Int) (H1 : K73 fu cp) (H2 : K146 fu cp) (H3 : K78 fu cp) : J (go Tryz.prog noC cp noI 0 [] d145 fu (fin Tryz.prog [.tmp 4] [24]) (bodyOf Tryz.f145) (initE 0 [.arr x1.length (lm (ik .u32) x1), .arr x2.length (lm (ik .u32) x2)]) [] []) (ref01_least fu x1 x2) e145 := by
 unfold ref01_least e145
 have da := d145_at
 conv => arg 1; simp only [bodyOf, Tryz.f145]
 have z0 := d145_at
 exact Wk
theorem ok145 (fu : Nat) (x1 : List Int) (x2 : List Int) (r) (h : ref01_least fu x1 x2 = some r) : PureOK Tryz.prog 145 [.arr x1.length (lm (ik .u32) x1), .arr x2.length (lm (ik .u32) x2)] (e145 r) := pureT mixed [(C73 fu).ct, (C146 fu).ct, (C78 fu).ct] (ids := [73, 146, 78]) rfl (by decide) i145 (C := noC) (ci := fun cp => noI) (fun cp ok => noI_ok) (fun cp H => w145 cp fu x1 x2 (u73 H.1) (u146 H.2.1) (u78 H.2.2.1)) h
def d75 : List (Nat × List Nat) := [(0, [8]), (0, []), (0, [15, 16, 17]), (0, []), (0, []), (0, []), (0, []), (0, []), (0, []), (0, []), (0, [19, 20, 21, 22, 23, 24, 25, 26, 27, 28, 29, 30, 31]), (0, []), (0, [0, 1, 32, 33, 34, 35, 36, 37, 38, 39, 40, 41, 42, 43, 44]), (0, []), (0, [45, 46, 47, 48, 49, 50, 51]), (0, []), (0, [52]), (0, []), (0, []), (0, []), (0, [55, 56]), (0, []), (0, [57, 58]), (0, []), (0, [12, 13, 59, 60, 61]), (0, []), (0, [63, 64, 65]), (0, []), (0, [11]), (0, []), (0, [67, 68, 69, 70]), (0, []), (0, [2, 3, 71, 72, 73, 74, 75, 76, 77, 78, 79, 80, 81]), (0, []), (0, [14, 82, 83, 84, 85, 86, 87, 88, 89, 90, 91]), (0, []), (0, [93, 94, 95, 96]), (0, []), (0, [9, 10, 97, 98, 99])]
def d75_at := by have h := tabL d75.eq_1; simp only [AllAt, Nat.zero_add, Nat.reduceAdd] at h; exact h
theorem i75 : finfo Tryz.prog 75 d75 = some ⟨bodyOf Tryz.f75, [.tmp 8], [24]⟩ := finfo_at Tryz.func75 rfl (by kernel_rfl) (by kernel_rfl)
def e75 : Int → AV := fun r => .v (.int .u32 r)
structure K145 (fu : Nat) (cp : CallP) : Prop where
 ap : ∀ {a0 : List Int} {a1 : List Int} {r}, ref01_least fu a0 a1 = some r → cp 145 [.arr a0.length (lm (ik .u32) a0), .arr a1.length (lm (ik .u32) a1)] = some (.v (.int .u32 r))
noncomputable def C145 (fu : Nat) : Cm Tryz.prog ((List Int) × (List Int)) Int := ⟨145, fun t => [.arr t.1.length (lm (ik .u32) t.1), .arr t.2.length (lm (ik .u32) t.2)], fun t => ref01_least fu t.1 t.2, e145, fun t b h => ok145 fu t.1 t.2  b h, Zi⟩
theorem u145 {fu : Nat} {cp : CallP} (H : Hit cp (C145 fu).ct) : K145 fu cp := ⟨fun {a0 a1 r} h => (C145 fu).at H (a0, a1) r h⟩
structure K76 (fu : Nat) (cp : CallP) : Prop where
 ap : ∀ {a0 : List Int} {a1 : List Int} {r}, ref01_Plus fu a0 a1 = some r → cp 76 [.arr a0.length (lm (ik .u32) a0), .arr a1.length (lm (ik .u32) a1)] = some (.arr r.length (lm (ik .u32) r))
noncomputable def C76 (fu : Nat) : Cm Tryz.prog ((List Int) × (List Int)) (List Int) := ⟨76, fun t => [.arr t.1.length (lm (ik .u32) t.1), .arr t.2.length (lm (ik .u32) t.2)], fun t => ref01_Plus fu t.1 t.2, e76, fun t b h => ok76 fu t.1 t.2  b h, Zi⟩
theorem u76 {fu : Nat} {cp : CallP} (H : Hit cp (C76 fu).ct) : K76 fu cp := ⟨fun {a0 a1 r} h => (C76 fu).at H (a0, a1) r h⟩
def ref01_Rounded.j4 : LJ 4 28 Unit Unit := ⟨fun r t e => [(2, er e 2), (3, er e 3), (9, er e 9), (10, er e 10), (11, er e 11)], fun r t h => []⟩
def ref01_Rounded.j3 : LJ 3 14 Unit Bool := ⟨fun r t e => [(2, er e 2), (3, er e 3), (9, er e 9), (10, er e 10), (11, er e 11), (12, .v (.bool t))], fun r t h => []⟩
def ref01_Rounded.j2 : LJ 2 12 Unit (Bool × Bool) := ⟨fun r t e => [(0, er e 0), (1, .v (.bool t.1)), (2, er e 2), (3, er e 3), (9, er e 9), (10, er e 10), (11, .v (.bool t.2))], fun r t h => []⟩
def ref01_Rounded.j1 : LJ 1 10 Unit (Bool × Int) := ⟨fun r t e => [(0, er e 0), (1, .v (.bool t.1)), (2, er e 2), (3, er e 3), (9, er e 9), (10, .v (.int .u32 t.2))], fun r t h => []⟩
set_option maxHeartbeats 20000000 in
open ref01_Rounded in
theorem w75 (cp : CallP) (fu : Nat) (x1 : Int) (x2 : Bool) (x3 : List Int) (x4 : List Int) (H1 : K145 fu cp) (H2 : K73 fu cp) (H3 : K146 fu cp) (H4 : K78 fu cp) (H5 : K76 fu cp) (H6 : K144 fu cp) : J (go Tryz.prog noC cp noI 0 [] d75 fu (fin Tryz.prog [.tmp 8] [24]) (bodyOf Tryz.f75) (initE 0 [.v (.int .i64 x1), .v (.bool x2), .arr x3.length (lm (ik .u32) x3), .arr x4.length (lm (ik .u32) x4)]) [] []) (ref01_Rounded fu x1 x2 x3 x4) e75 := by
 unfold ref01_Rounded e75
 have da := d75_at
 conv => arg 1; simp only [bodyOf, Tryz.f75]
 have z0 := d75_at
 exact Wk
theorem ok75 (fu : Nat) (x1 : Int) (x2 : Bool) (x3 : List Int) (x4 : List Int) (r) (h : ref01_Rounded fu x1 x2 x3 x4 = some r) : PureOK Tryz.prog 75 [.v (.int .i64 x1), .v (.bool x2), .arr x3.length (lm (ik .u32) x3), .arr x4.length (lm (ik .u32) x4)] (e75 r) := pureT mixed [(C145 fu).ct, (C73 fu).ct, (C146 fu).ct, (C78 fu).ct, (C76 fu).ct, (C144 fu).ct] (ids := [145, 73, 146, 78, 76, 144]) rfl (by decide) i75 (C := noC) (ci := fun cp => noI) (fun cp ok => noI_ok) (fun cp H => w75 cp fu x1 x2 x3 x4 (u145 H.1) (u73 H.2.1) (u146 H.2.2.1) (u78 H.2.2.2.1) (u76 H.2.2.2.2.1) (u144 H.2.2.2.2.2.1)) h
def d79 : List (Nat × List Nat) := [(0, [4]), (0, [0, 1, 6, 7]), (0, [1000005]), (0, []), (0, []), (0, []), (0, []), (0, []), (0, [10, 11, 12]), (0, []), (0, [14, 15]), (0, []), (0, [16]), (0, []), (0, [17, 18, 19]), (0, []), (0, [21, 22, 23, 24, 25, 26, 27]), (0, []), (0, [28, 29, 30, 31, 32]), (0, []), (0, []), (0, []), (0, [33, 34]), (0, []), (0, [36, 37]), (0, []), (0, []), (0, []), (0, [8, 9, 38, 39, 40, 41, 42, 43, 44]), (0, []), (0, [5, 45, 46])]
def d79_at := by have h := tabL d79.eq_1; simp only [AllAt, Nat.zero_add, Nat.reduceAdd] at h; exact h
theorem i79 : finfo Tryz.prog 79 d79 = some ⟨bodyOf Tryz.f79, [.tmp 4], [97]⟩ := finfo_at Tryz.func79 rfl (by kernel_rfl) (by kernel_rfl)
def e79 : (List Int) → AV := fun r => .arr r.length (lm (ik .u32) r)
def ref01_Minus.j3 : LJ 3 28 Unit (Int × Int) := ⟨fun r t e => [(0, er e 0), (1, er e 1), (5, er e 5), (6, .v (.int .u64 t.1)), (7, er e 7), (8, er e 8), (9, .v (.int .u64 t.2))], fun r t h => [((0, 5, 77), hr h (0, 5, 77))]⟩
def ref01_Minus.j2 : LJ 2 18 Unit Int := ⟨fun r t e => [(0, er e 0), (1, er e 1), (5, er e 5), (6, er e 6), (7, er e 7), (8, .v (.int .u64 t))], fun r t h => [((0, 5, 77), hr h (0, 5, 77))]⟩
def ref01_Minus.m1 : LJ 1 8 Unit ((List Int) × Int × Int) := ⟨fun r s e => [(0, er e 0), (1, er e 1), (5, .own (0, 5, 77) 0 s.1.length s.1.length), (6, .v (.int .u64 s.2.1)), (7, .v (.int .i64 s.2.2))], fun r s h => [((0, 5, 77), .sl true true 1 s.1.length (lm (ik .u32) s.1))]⟩
def ref01_Minus.j1 : LJ 1 30 Unit (List Int) := ⟨fun r t e => [(5, .own (0, 5, 77) 0 t.length t.length)], fun r t h => [((0, 5, 77), .sl true true 1 t.length (lm (ik .u32) t))]⟩
set_option maxHeartbeats 20000000 in
open ref01_Minus in
theorem w79 (cp : CallP) (fu : Nat) (x1 : List Int) (x2 : List Int) (H1 : K147 fu cp) : J (go Tryz.prog noC cp noI 0 [] d79 fu (fin Tryz.prog [.tmp 4] [97]) (bodyOf Tryz.f79) (initE 0 [.arr x1.length (lm (ik .u32) x1), .arr x2.length (lm (ik .u32) x2)]) [] []) (ref01_Minus fu x1 x2) e79 := by
 unfold ref01_Minus e79
 have da := d79_at
 conv => arg 1; simp only [bodyOf, Tryz.f79]
 have z0 := d79_at
 exact Wk
theorem ok79 (fu : Nat) (x1 : List Int) (x2 : List Int) (r) (h : ref01_Minus fu x1 x2 = some r) : PureOK Tryz.prog 79 [.arr x1.length (lm (ik .u32) x1), .arr x2.length (lm (ik .u32) x2)] (e79 r) := pureT mixed [(C147 fu).ct] (ids := [147]) rfl (by decide) i79 (C := noC) (ci := fun cp => noI) (fun cp ok => noI_ok) (fun cp H => w79 cp fu x1 x2 (u147 H.1)) h
def d37 : List (Nat × List Nat) := [(0, [6]), (0, [1, 2, 7, 8, 68]), (0, [9, 10, 11, 12, 13]), (0, []), (0, []), (0, []), (0, [15, 16, 17, 18, 19, 20, 21]), (0, []), (0, [23, 24, 25, 26, 27, 28, 29, 30, 31]), (0, []), (0, []), (0, []), (0, [33, 34]), (0, []), (0, [36]), (0, []), (0, [37]), (0, []), (0, [38, 39, 40]), (0, []), (0, [41, 42, 43]), (0, []), (0, [44, 45, 46, 47]), (0, []), (0, [49, 50, 51, 52, 53, 54, 55]), (0, []), (0, [57]), (0, []), (0, [58, 59, 60, 61, 62, 63, 64, 65]), (0, []), (0, [66, 67]), (0, []), (0, [70]), (0, []), (0, [71, 72, 73, 74, 75, 76, 77, 78]), (0, []), (0, [80]), (0, []), (0, [81, 82, 83, 84, 85, 86, 87, 88]), (0, []), (0, [0, 89]), (0, []), (0, []), (0, []), (0, [])]
def d37_at := by have h := tabL d37.eq_1; simp only [AllAt, Nat.zero_add, Nat.reduceAdd] at h; exact h
theorem i37 : finfo Tryz.prog 37 d37 = some ⟨bodyOf Tryz.f37, [.tmp 6], [24]⟩ := finfo_at Tryz.func37 rfl (by kernel_rfl) (by kernel_rfl)
def e37 : Int → AV := fun r => .v (.int .u32 r)
structure K71 (fu : Nat) (cp : CallP) : Prop where
 ap : ∀ {a0 : Int} {r}, ref01_IsNone fu a0 = some r → cp 71 [.v (.int .u32 a0)] = some (.v (.bool r))
noncomputable def C71 (fu : Nat) : Cm Tryz.prog Int Bool := ⟨71, fun t => [.v (.int .u32 t)], fun t => ref01_IsNone fu t, e71, fun t b h => ok71 fu t  b h, Zi⟩
theorem u71 {fu : Nat} {cp : CallP} (H : Hit cp (C71 fu).ct) : K71 fu cp := ⟨fun {a0 r} h => (C71 fu).at H a0 r h⟩
structure K74 (fu : Nat) (cp : CallP) : Prop where
 ap : ∀ {a0 : Int} {r}, ref01_Below fu a0 = some r → cp 74 [.v (.int .u32 a0)] = some (.v (.bool r))
noncomputable def C74 (fu : Nat) : Cm Tryz.prog Int Bool := ⟨74, fun t => [.v (.int .u32 t)], fun t => ref01_Below fu t, e74, fun t b h => ok74 fu t  b h, Zi⟩
theorem u74 {fu : Nat} {cp : CallP} (H : Hit cp (C74 fu).ct) : K74 fu cp := ⟨fun {a0 r} h => (C74 fu).at H a0 r h⟩
structure K75 (fu : Nat) (cp : CallP) : Prop where
 ap : ∀ {a0 : Int} {a1 : Bool} {a2 : List Int} {a3 : List Int} {r}, ref01_Rounded fu a0 a1 a2 a3 = some r → cp 75 [.v (.int .i64 a0), .v (.bool a1), .arr a2.length (lm (ik .u32) a2), .arr a3.length (lm (ik .u32) a3)] = some (.v (.int .u32 r))
noncomputable def C75 (fu : Nat) : Cm Tryz.prog (Int × Bool × (List Int) × (List Int)) Int := ⟨75, fun t => [.v (.int .i64 t.1), .v (.bool t.2.1), .arr t.2.2.1.length (lm (ik .u32) t.2.2.1), .arr t.2.2.2.length (lm (ik .u32) t.2.2.2)], fun t => ref01_Rounded fu t.1 t.2.1 t.2.2.1 t.2.2.2, e75, fun t b h => ok75 fu t.1 t.2.1 t.2.2.1 t.2.2.2  b h, Zi⟩
theorem u75 {fu : Nat} {cp : CallP} (H : Hit cp (C75 fu).ct) : K75 fu cp := ⟨fun {a0 a1 a2 a3 r} h => (C75 fu).at H (a0, a1, a2, a3) r h⟩
structure K79 (fu : Nat) (cp : CallP) : Prop where
 ap : ∀ {a0 : List Int} {a1 : List Int} {r}, ref01_Minus fu a0 a1 = some r → cp 79 [.arr a0.length (lm (ik .u32) a0), .arr a1.length (lm (ik .u32) a1)] = some (.arr r.length (lm (ik .u32) r))
noncomputable def C79 (fu : Nat) : Cm Tryz.prog ((List Int) × (List Int)) (List Int) := ⟨79, fun t => [.arr t.1.length (lm (ik .u32) t.1), .arr t.2.length (lm (ik .u32) t.2)], fun t => ref01_Minus fu t.1 t.2, e79, fun t b h => ok79 fu t.1 t.2  b h, Zi⟩
theorem u79 {fu : Nat} {cp : CallP} (H : Hit cp (C79 fu).ct) : K79 fu cp := ⟨fun {a0 a1 r} h => (C79 fu).at H (a0, a1) r h⟩
def ref01_AddBy.j3 : LJ 3 28 Unit Unit := ⟨fun r t e => [(0, er e 0), (1, er e 1), (2, er e 2), (7, er e 7), (8, er e 8)], fun r t h => []⟩
def ref01_AddBy.j4 : LJ 4 12 Unit Unit := ⟨fun r t e => [(0, er e 0), (1, er e 1), (2, er e 2)], fun r t h => []⟩
def ref01_AddBy.j5 : LJ 5 12 Unit Unit := ⟨fun r t e => [(0, er e 0), (1, er e 1), (2, er e 2)], fun r t h => []⟩
def ref01_AddBy.j2 : LJ 2 18 Unit Unit := ⟨fun r t e => [(0, er e 0), (1, er e 1), (2, er e 2)], fun r t h => []⟩
def ref01_AddBy.j1 : LJ 1 6 Unit Unit := ⟨fun r t e => [(0, er e 0), (1, er e 1), (2, er e 2)], fun r t h => []⟩
set_option maxHeartbeats 20000000 in
open ref01_AddBy in
theorem w37 (cp : CallP) (fu : Nat) (x1 : Int) (x2 : Int) (x3 : Int) (H1 : K71 fu cp) (H2 : K72 fu cp) (H3 : K73 fu cp) (H4 : K74 fu cp) (H5 : K76 fu cp) (H6 : K77 fu cp) (H7 : K75 fu cp) (H8 : K78 fu cp) (H9 : K79 fu cp) : J (go Tryz.prog noC cp noI 0 [] d37 fu (fin Tryz.prog [.tmp 6] [24]) (bodyOf Tryz.f37) (initE 0 [.v (.int .i64 x1), .v (.int .u32 x2), .v (.int .u32 x3)]) [] []) (ref01_AddBy fu x1 x2 x3) e37 := by
 unfold ref01_AddBy e37
 have da := d37_at
 conv => arg 1; simp only [bodyOf, Tryz.f37]
 have z0 := d37_at
 exact Wk
theorem ok37 (fu : Nat) (x1 : Int) (x2 : Int) (x3 : Int) (r) (h : ref01_AddBy fu x1 x2 x3 = some r) : PureOK Tryz.prog 37 [.v (.int .i64 x1), .v (.int .u32 x2), .v (.int .u32 x3)] (e37 r) := pureT mixed [(C71 fu).ct, (C72 fu).ct, (C73 fu).ct, (C74 fu).ct, (C76 fu).ct, (C77 fu).ct, (C75 fu).ct, (C78 fu).ct, (C79 fu).ct] (ids := [71, 72, 73, 74, 76, 77, 75, 78, 79]) rfl (by decide) i37 (C := noC) (ci := fun cp => noI) (fun cp ok => noI_ok) (fun cp H => w37 cp fu x1 x2 x3 (u71 H.1) (u72 H.2.1) (u73 H.2.2.1) (u74 H.2.2.2.1) (u76 H.2.2.2.2.1) (u77 H.2.2.2.2.2.1) (u75 H.2.2.2.2.2.2.1) (u78 H.2.2.2.2.2.2.2.1) (u79 H.2.2.2.2.2.2.2.2.1)) h
def d19 : List (Nat × List Nat) := [(0, [4]), (0, []), (0, [0, 1, 5, 6, 7])]
def d19_at := by have h := tabL d19.eq_1; simp only [AllAt, Nat.zero_add, Nat.reduceAdd] at h; exact h
theorem i19 : finfo Tryz.prog 19 d19 = some ⟨bodyOf Tryz.f19, [.tmp 4], [24]⟩ := finfo_at Tryz.func19 rfl (by kernel_rfl) (by kernel_rfl)
def e19 : Int → AV := fun r => .v (.int .u32 r)
structure K37 (fu : Nat) (cp : CallP) : Prop where
 ap : ∀ {a0 : Int} {a1 : Int} {a2 : Int} {r}, ref01_AddBy fu a0 a1 a2 = some r → cp 37 [.v (.int .i64 a0), .v (.int .u32 a1), .v (.int .u32 a2)] = some (.v (.int .u32 r))
noncomputable def C37 (fu : Nat) : Cm Tryz.prog (Int × Int × Int) Int := ⟨37, fun t => [.v (.int .i64 t.1), .v (.int .u32 t.2.1), .v (.int .u32 t.2.2)], fun t => ref01_AddBy fu t.1 t.2.1 t.2.2, e37, fun t b h => ok37 fu t.1 t.2.1 t.2.2  b h, Zi⟩
theorem u37 {fu : Nat} {cp : CallP} (H : Hit cp (C37 fu).ct) : K37 fu cp := ⟨fun {a0 a1 a2 r} h => (C37 fu).at H (a0, a1, a2) r h⟩
set_option maxHeartbeats 20000000 in
theorem w19 (cp : CallP) (fu : Nat) (x1 : Int) (x2 : Int) (H1 : K37 fu cp) : J (go Tryz.prog noC cp noI 0 [] d19 fu (fin Tryz.prog [.tmp 4] [24]) (bodyOf Tryz.f19) (initE 0 [.v (.int .u32 x1), .v (.int .u32 x2)]) [] []) (ref01_Add fu x1 x2) e19 := by
 unfold ref01_Add e19
 have da := d19_at
 conv => arg 1; simp only [bodyOf, Tryz.f19]
 have z0 := d19_at
 exact Wk
theorem ok19 (fu : Nat) (x1 : Int) (x2 : Int) (r) (h : ref01_Add fu x1 x2 = some r) : PureOK Tryz.prog 19 [.v (.int .u32 x1), .v (.int .u32 x2)] (e19 r) := pureT mixed [(C37 fu).ct] (ids := [37]) rfl (by decide) i19 (C := noC) (ci := fun cp => noI) (fun cp ok => noI_ok) (fun cp H => w19 cp fu x1 x2 (u37 H.1)) h
def d10 : List (Nat × List Nat) := [(0, [2]), (0, [0, 4]), (0, []), (0, []), (0, []), (0, []), (0, [5, 6, 7]), (0, []), (0, [9, 10]), (0, []), (0, [11, 12, 13, 14, 15, 16]), (0, []), (0, [3, 17])]
def d10_at := by have h := tabL d10.eq_1; simp only [AllAt, Nat.zero_add, Nat.reduceAdd] at h; exact h
theorem i10 : finfo Tryz.prog 10 d10 = some ⟨bodyOf Tryz.f10, [.tmp 2], [24]⟩ := finfo_at Tryz.func10 rfl (by kernel_rfl) (by kernel_rfl)
def e10 : Int → AV := fun r => .v (.int .u32 r)
structure K19 (fu : Nat) (cp : CallP) : Prop where
 ap : ∀ {a0 : Int} {a1 : Int} {r}, ref01_Add fu a0 a1 = some r → cp 19 [.v (.int .u32 a0), .v (.int .u32 a1)] = some (.v (.int .u32 r))
noncomputable def C19 (fu : Nat) : Cm Tryz.prog (Int × Int) Int := ⟨19, fun t => [.v (.int .u32 t.1), .v (.int .u32 t.2)], fun t => ref01_Add fu t.1 t.2, e19, fun t b h => ok19 fu t.1 t.2  b h, Zi⟩
theorem u19 {fu : Nat} {cp : CallP} (H : Hit cp (C19 fu).ct) : K19 fu cp := ⟨fun {a0 a1 r} h => (C19 fu).at H (a0, a1) r h⟩
def ref13_Sum.m1 : LJ 1 6 Unit (Int × Int) := ⟨fun r s e => [(0, er e 0), (3, .v (.int .u32 s.1)), (4, .v (.int .i64 s.2))], fun r s h => []⟩
set_option maxHeartbeats 20000000 in
open ref13_Sum in
theorem w10 (cp : CallP) (fu : Nat) (x1 : List Int) (H1 : K19 fu cp) : J (go Tryz.prog noC cp noI 0 [] d10 fu (fin Tryz.prog [.tmp 2] [24]) (bodyOf Tryz.f10) (initE 0 [.arr x1.length (lm (ik .u32) x1)]) [] []) (ref13_Sum fu x1) e10 := by
 unfold ref13_Sum e10
 have da := d10_at
 conv => arg 1; simp only [bodyOf, Tryz.f10]
 have z0 := d10_at
 exact Wk
theorem ok10 (fu : Nat) (x1 : List Int) (r) (h : ref13_Sum fu x1 = some r) : PureOK Tryz.prog 10 [.arr x1.length (lm (ik .u32) x1)] (e10 r) := pureT mixed [(C19 fu).ct] (ids := [19]) rfl (by decide) i10 (C := noC) (ci := fun cp => noI) (fun cp ok => noI_ok) (fun cp H => w10 cp fu x1 (u19 H.1)) h
def d3 : List (Nat × List Nat) := [(0, [2]), (0, []), (0, [4]), (0, []), (0, [0, 3, 5, 6, 7, 8, 9, 10, 11, 12])]
def d3_at := by have h := tabL d3.eq_1; simp only [AllAt, Nat.zero_add, Nat.reduceAdd] at h; exact h
theorem i3 : finfo Tryz.prog 3 d3 = some ⟨bodyOf Tryz.f3, [.tmp 2], [4]⟩ := finfo_at Tryz.func3 rfl (by kernel_rfl) (by kernel_rfl)
def e3 : Bool → AV := fun r => .v (.bool r)
noncomputable def C8 : Cm Tryz.prog Unit Bool := ⟨8, fun _ => [], fun _ => some true, fun b => .v (.bool b), fun _ b h => by injection h with h; subst h; exact awake8, fun _ _ _ => rfl⟩
structure K9 (fu : Nat) (cp : CallP) : Prop where
 ap : ∀ {a0 : List Int} {r}, reduce_Sum fu a0 = some r → cp 9 [.arr a0.length (lm (ik .u32) a0)] = some (.v (.int .u32 r))
noncomputable def C9 (fu : Nat) : Cm Tryz.prog (List Int) Int := ⟨9, fun t => [.arr t.length (lm (ik .u32) t)], fun t => reduce_Sum fu t, e9, fun t b h => ok9 fu t  b h, Zi⟩
theorem u9 {fu : Nat} {cp : CallP} (H : Hit cp (C9 fu).ct) : K9 fu cp := ⟨fun {a0 r} h => (C9 fu).at H a0 r h⟩
structure K10 (fu : Nat) (cp : CallP) : Prop where
 ap : ∀ {a0 : List Int} {r}, ref13_Sum fu a0 = some r → cp 10 [.arr a0.length (lm (ik .u32) a0)] = some (.v (.int .u32 r))
noncomputable def C10 (fu : Nat) : Cm Tryz.prog (List Int) Int := ⟨10, fun t => [.arr t.length (lm (ik .u32) t)], fun t => ref13_Sum fu t, e10, fun t b h => ok10 fu t  b h, Zi⟩
theorem u10 {fu : Nat} {cp : CallP} (H : Hit cp (C10 fu).ct) : K10 fu cp := ⟨fun {a0 r} h => (C10 fu).at H a0 r h⟩
set_option maxHeartbeats 20000000 in
theorem w3 (cp : CallP) (fu : Nat) (x1 : List Int) (H1 : cp 8 [] = some (.v (.bool true))) (H2 : K9 fu cp) (H3 : K10 fu cp) : J (go Tryz.prog noC cp noI 0 [] d3 fu (fin Tryz.prog [.tmp 2] [4]) (bodyOf Tryz.f3) (initE 0 [.arr x1.length (lm (ik .u32) x1)]) [] []) (law13_ReduceSums fu x1) e3 := by
 unfold law13_ReduceSums e3
 have da := d3_at
 conv => arg 1; simp only [bodyOf, Tryz.f3]
 have z0 := d3_at
 exact Wk
theorem ok3 (fu : Nat) (x1 : List Int) (r) (h : law13_ReduceSums fu x1 = some r) : PureOK Tryz.prog 3 [.arr x1.length (lm (ik .u32) x1)] (e3 r) := pureT mixed [C8.ct, (C9 fu).ct, (C10 fu).ct] (ids := [8, 9, 10]) rfl (by decide) i3 (C := noC) (ci := fun cp => noI) (fun cp ok => noI_ok) (fun cp H => w3 cp fu x1 (C8.at H.1 () true rfl) (u9 H.2.1) (u10 H.2.2.1)) h
end Go.Av
