/- The walks of the plain functions. Made by a program of mine. Conditions: none. -/
import Derived.Test.YteafmomjfnlkgaaGreatQ8S
import Derived.Test.YteafmomjfnlkgaaGreatProg
set_option linter.unusedVariables false
set_option linter.unusedSimpArgs false
set_option linter.defProp false
set_option maxRecDepth 20000
open Go Go.Proofs
namespace Go.Av
theorem mixed : Tryz.prog.follows .mixedOrders = true := by kernel_rfl
def bodyOf (f : Func) : Code := f.body.getD .skip
theorem tv2 : tview Tryz.prog 2 = some (.int .i64) := by kernel_rfl
theorem ts2 : tsize Tryz.prog 2 = 1 := by kernel_rfl
def pt2 := @ptW _ _ _ tv2 rfl
def st2 := @stW _ _ ts2
theorem tv3 : tview Tryz.prog 3 = some (.int .i64) := by kernel_rfl
theorem ts3 : tsize Tryz.prog 3 = 1 := by kernel_rfl
def pt3 := @ptW _ _ _ tv3 rfl
def st3 := @stW _ _ ts3
theorem tv4 : tview Tryz.prog 4 = some (.bool) := by kernel_rfl
theorem ts4 : tsize Tryz.prog 4 = 1 := by kernel_rfl
def pt4 := @ptW _ _ _ tv4 rfl
def sb4 := @sbW _ _ ts4
theorem tv22 : tview Tryz.prog 22 = some (.slice 3 1 8) := by kernel_rfl
theorem ts22 : tsize Tryz.prog 22 = 1 := by kernel_rfl
def pt22 := @ptW _ _ _ tv22 rfl
def ia22 := @iaW _ _ _ _ _ tv22
def io22 := @ioW _ _ _ _ _ tv22
def le22 := @leW _ _ _ _ _ tv22
theorem tz3 : tzero Tryz.prog 3 = some [.v (.int .i64 0)] := by kernel_rfl
def ap22 := @apW _ _ _ _ _ _ tv22 tz3 rfl (by decide)
def bs22 := @bsW _ _ _ _ _ _ tv22 tz3 rfl (by decide)
def sa22 := @saW _ _ ts22
def so22 := @soW _ _ ts22
theorem tv23 : tview Tryz.prog 23 = some (.int .u32) := by kernel_rfl
theorem ts23 : tsize Tryz.prog 23 = 1 := by kernel_rfl
def pt23 := @ptW _ _ _ tv23 rfl
def st23 := @stW _ _ ts23
theorem tv24 : tview Tryz.prog 24 = some (.slice 23 1 4) := by kernel_rfl
theorem ts24 : tsize Tryz.prog 24 = 1 := by kernel_rfl
def pt24 := @ptW _ _ _ tv24 rfl
def ia24 := @iaW _ _ _ _ _ tv24
def io24 := @ioW _ _ _ _ _ tv24
def le24 := @leW _ _ _ _ _ tv24
theorem tz23 : tzero Tryz.prog 23 = some [.v (.int .u32 0)] := by kernel_rfl
def ap24 := @apW _ _ _ _ _ _ tv24 tz23 rfl (by decide)
def bs24 := @bsW _ _ _ _ _ _ tv24 tz23 rfl (by decide)
def sa24 := @saW _ _ ts24
def so24 := @soW _ _ ts24
theorem tv25 : tview Tryz.prog 25 = some (.slice 2 1 8) := by kernel_rfl
theorem ts25 : tsize Tryz.prog 25 = 1 := by kernel_rfl
def pt25 := @ptW _ _ _ tv25 rfl
def ia25 := @iaW _ _ _ _ _ tv25
def io25 := @ioW _ _ _ _ _ tv25
def le25 := @leW _ _ _ _ _ tv25
theorem tz2 : tzero Tryz.prog 2 = some [.v (.int .i64 0)] := by kernel_rfl
def ap25 := @apW _ _ _ _ _ _ tv25 tz2 rfl (by decide)
def bs25 := @bsW _ _ _ _ _ _ tv25 tz2 rfl (by decide)
def sa25 := @saW _ _ ts25
def so25 := @soW _ _ ts25
theorem tv26 : tview Tryz.prog 26 = some (.slice 4 1 1) := by kernel_rfl
theorem ts26 : tsize Tryz.prog 26 = 1 := by kernel_rfl
def pt26 := @ptW _ _ _ tv26 rfl
def ia26 := @iaW _ _ _ _ _ tv26
def io26 := @ioW _ _ _ _ _ tv26
def le26 := @leW _ _ _ _ _ tv26
theorem tz4 : tzero Tryz.prog 4 = some [.v (.bool false)] := by kernel_rfl
def ap26 := @apW _ _ _ _ _ _ tv26 tz4 rfl (by decide)
def bs26 := @bsW _ _ _ _ _ _ tv26 tz4 rfl (by decide)
def sa26 := @saW _ _ ts26
def so26 := @soW _ _ ts26
theorem tv28 : tview Tryz.prog 28 = some (.struct) := by kernel_rfl
theorem ts28 : tsize Tryz.prog 28 = 5 := by kernel_rfl
theorem pt28 : ∀ {xs : List AV} {off : Nat}, part Tryz.prog xs 28 off = if off + 5 ≤ xs.length then some (.agg ((xs.drop off).take 5)) else none := part_struct tv28 ts28
theorem sg28 : ∀ {h : Heap} {id : Id} {off : Nat} {ys : List AV}, ys.length = 5 → stX Tryz.prog 28 h (.ptr id off 0) (.agg ys) = (h.get id).bind (stH Tryz.prog 28 h id off ys) := stX_aggH ts28 (by decide)
theorem tv31 : tview Tryz.prog 31 = some (.slice 28 5 104) := by kernel_rfl
theorem ts31 : tsize Tryz.prog 31 = 1 := by kernel_rfl
def pt31 := @ptW _ _ _ tv31 rfl
def ia31 := @iaW _ _ _ _ _ tv31
def io31 := @ioW _ _ _ _ _ tv31
def le31 := @leW _ _ _ _ _ tv31
def sa31 := @saW _ _ ts31
def so31 := @soW _ _ ts31
theorem tv46 : tview Tryz.prog 46 = some (.slice 51 8 144) := by kernel_rfl
theorem ts46 : tsize Tryz.prog 46 = 1 := by kernel_rfl
def pt46 := @ptW _ _ _ tv46 rfl
def ia46 := @iaW _ _ _ _ _ tv46
def io46 := @ioW _ _ _ _ _ tv46
def le46 := @leW _ _ _ _ _ tv46
theorem tz51 : tzero Tryz.prog 51 = some [.v (.int .i64 0), .v (.slice none 0 0), .v (.bool false), .v (.int .i64 0), .v (.slice none 0 0), .v (.slice none 0 0), .v (.slice none 0 0), .v (.slice none 0 0)] := by kernel_rfl
def ap46 := @apW _ _ _ _ _ _ tv46 tz51 rfl (by decide)
theorem af46 : ∀ {lvl d m : Nat} {h : Heap} {id : Id} {n by_ : Nat} {l b : List T_Val}, m = b.length → n + m ≤ 140737488355328 → (n + m) * by_ ≤ 140737488355328 → appI lvl d 8 by_ h m (fm c_T_Val b) id n n (.sl true true 8 n (fm c_T_Val l)) = some (.own id 0 (n + m) (n + m), h.set id (.sl true true 8 (n + m) (fm c_T_Val (l ++ b)))) := fun h1 h2 h3 => appI_fm c_T_Val_len h1 h2 h3 (one_fm c_T_Val_one)
def bs46 := @bsW _ _ _ _ _ _ tv46 tz51 rfl (by decide)
def sa46 := @saW _ _ ts46
def so46 := @soW _ _ ts46
theorem tv51 : tview Tryz.prog 51 = some (.struct) := by kernel_rfl
theorem ts51 : tsize Tryz.prog 51 = 8 := by kernel_rfl
theorem pt51 : ∀ {xs : List AV} {off : Nat}, part Tryz.prog xs 51 off = if off + 8 ≤ xs.length then some (.agg ((xs.drop off).take 8)) else none := part_struct tv51 ts51
theorem sg51 : ∀ {h : Heap} {id : Id} {off : Nat} {ys : List AV}, ys.length = 8 → stX Tryz.prog 51 h (.ptr id off 0) (.agg ys) = (h.get id).bind (stH Tryz.prog 51 h id off ys) := stX_aggH ts51 (by decide)
theorem fo28_0 : fieldOf Tryz.prog 28 0 = some (0, 3) := by kernel_rfl
def fp28_0 := @fpW _ _ _ _ _ _ fo28_0 ts3 (by decide)
def fr28_0 := @frW _ _ _ _ _ _ fo28_0 ts3 (by decide)
theorem fo28_1 : fieldOf Tryz.prog 28 1 = some (1, 22) := by kernel_rfl
def fp28_1 := @fpW _ _ _ _ _ _ fo28_1 ts22 (by decide)
def fr28_1 := @frW _ _ _ _ _ _ fo28_1 ts22 (by decide)
theorem fo28_2 : fieldOf Tryz.prog 28 2 = some (2, 24) := by kernel_rfl
def fp28_2 := @fpW _ _ _ _ _ _ fo28_2 ts24 (by decide)
def fr28_2 := @frW _ _ _ _ _ _ fo28_2 ts24 (by decide)
theorem fo28_3 : fieldOf Tryz.prog 28 3 = some (3, 25) := by kernel_rfl
def fp28_3 := @fpW _ _ _ _ _ _ fo28_3 ts25 (by decide)
def fr28_3 := @frW _ _ _ _ _ _ fo28_3 ts25 (by decide)
theorem fo28_4 : fieldOf Tryz.prog 28 4 = some (4, 26) := by kernel_rfl
def fp28_4 := @fpW _ _ _ _ _ _ fo28_4 ts26 (by decide)
def fr28_4 := @frW _ _ _ _ _ _ fo28_4 ts26 (by decide)
theorem fo51_0 : fieldOf Tryz.prog 51 0 = some (0, 3) := by kernel_rfl
def fp51_0 := @fpW _ _ _ _ _ _ fo51_0 ts3 (by decide)
def fr51_0 := @frW _ _ _ _ _ _ fo51_0 ts3 (by decide)
theorem fo51_1 : fieldOf Tryz.prog 51 1 = some (1, 22) := by kernel_rfl
def fp51_1 := @fpW _ _ _ _ _ _ fo51_1 ts22 (by decide)
def fr51_1 := @frW _ _ _ _ _ _ fo51_1 ts22 (by decide)
theorem fo51_2 : fieldOf Tryz.prog 51 2 = some (2, 4) := by kernel_rfl
def fp51_2 := @fpW _ _ _ _ _ _ fo51_2 ts4 (by decide)
def fr51_2 := @frW _ _ _ _ _ _ fo51_2 ts4 (by decide)
theorem fo51_3 : fieldOf Tryz.prog 51 3 = some (3, 28) := by kernel_rfl
def fp51_3 := @fpW _ _ _ _ _ _ fo51_3 ts28 (by decide)
def fr51_3 := @frW _ _ _ _ _ _ fo51_3 ts28 (by decide)
theorem tz28 : tzero Tryz.prog 28 = some [.v (.int .i64 0), .v (.slice none 0 0), .v (.slice none 0 0), .v (.slice none 0 0), .v (.slice none 0 0)] := by kernel_rfl
def bl28 := @blW _ _ _ tz28 tv28
theorem fl28_0 : flP Tryz.prog 28 0 = some (0, 1) := @flW _ _ _ _ _ _ fo28_0 ts3
theorem fl28_1 : flP Tryz.prog 28 1 = some (1, 1) := @flW _ _ _ _ _ _ fo28_1 ts22
theorem fl28_2 : flP Tryz.prog 28 2 = some (2, 1) := @flW _ _ _ _ _ _ fo28_2 ts24
theorem fl28_3 : flP Tryz.prog 28 3 = some (3, 1) := @flW _ _ _ _ _ _ fo28_3 ts25
theorem fl28_4 : flP Tryz.prog 28 4 = some (4, 1) := @flW _ _ _ _ _ _ fo28_4 ts26
def bl51 := @blW _ _ _ tz51 tv51
theorem fl51_0 : flP Tryz.prog 51 0 = some (0, 1) := @flW _ _ _ _ _ _ fo51_0 ts3
theorem fl51_1 : flP Tryz.prog 51 1 = some (1, 1) := @flW _ _ _ _ _ _ fo51_1 ts22
theorem fl51_2 : flP Tryz.prog 51 2 = some (2, 1) := @flW _ _ _ _ _ _ fo51_2 ts4
theorem fl51_3 : flP Tryz.prog 51 3 = some (3, 5) := @flW _ _ _ _ _ _ fo51_3 ts28
def al28 := @alW _ _ _ tz28
def aq28 := @aqW _ _ _ tz28
def al51 := @alW _ _ _ tz51
def aq51 := @aqW _ _ _ tz51
theorem ab4 : ∀ {op : BinOp} {a b : Bool}, abin Tryz.prog op 4 (.v (.bool a)) (.v (.bool b)) = abinB op a b := abin_bool tv4
theorem sc22 : sliceCells Tryz.prog 4 22 = [2] := by kernel_rfl
theorem ty22 : typed Tryz.prog 22 (.v (.slice none 0 0)) = .fresh 1 0 [] := ty_nil sc22
theorem sc24 : sliceCells Tryz.prog 4 24 = [2] := by kernel_rfl
theorem ty24 : typed Tryz.prog 24 (.v (.slice none 0 0)) = .fresh 1 0 [] := ty_nil sc24
theorem sc25 : sliceCells Tryz.prog 4 25 = [2] := by kernel_rfl
theorem ty25 : typed Tryz.prog 25 (.v (.slice none 0 0)) = .fresh 1 0 [] := ty_nil sc25
theorem sc26 : sliceCells Tryz.prog 4 26 = [2] := by kernel_rfl
theorem ty26 : typed Tryz.prog 26 (.v (.slice none 0 0)) = .fresh 1 0 [] := ty_nil sc26
theorem sc28 : sliceCells Tryz.prog 4 28 = [0, 2, 2, 2, 2] := by kernel_rfl
theorem ty28 : ∀ {xs : List AV}, typed Tryz.prog 28 (.agg xs) = .agg (nilNew xs [0, 2, 2, 2, 2]) := ty_agg sc28
theorem sc46 : sliceCells Tryz.prog 4 46 = [9] := by kernel_rfl
theorem ty46 : typed Tryz.prog 46 (.v (.slice none 0 0)) = .fresh 8 0 [] := ty_nil sc46
theorem c_T_Tensor_at {x : T_Tensor} : c_T_Tensor x = [.v (.int .i64 x.fType), .arr x.fDims.length (lm (ik .i64) x.fDims), .arr x.fF.length (lm (ik .u32) x.fF), .arr x.fI.length (lm (ik .i64) x.fI), .arr x.fB.length (lm (bk) x.fB)] := rfl
theorem c_T_Val_at {x : T_Val} : c_T_Val x = [.v (.int .i64 x.fType), .arr x.fDims.length (lm (ik .i64) x.fDims), .v (.bool x.fConst), .v (.int .i64 x.fT.fType), .arr x.fT.fDims.length (lm (ik .i64) x.fT.fDims), .arr x.fT.fF.length (lm (ik .u32) x.fT.fF), .arr x.fT.fI.length (lm (ik .i64) x.fT.fI), .arr x.fT.fB.length (lm (bk) x.fT.fB)] := rfl
theorem c_T_Tensor_inj : Inj c_T_Tensor := by
  intro a b h
  obtain ⟨a0, a1, a2, a3, a4⟩ := a
  obtain ⟨b0, b1, b2, b3, b4⟩ := b
  simp only [c_T_Tensor_at, INJ] at h
  simp_all
theorem c_T_Val_inj : Inj c_T_Val := by
  intro a b h
  obtain ⟨a0, a1, a2, ⟨a_30, a_31, a_32, a_33, a_34⟩⟩ := a
  obtain ⟨b0, b1, b2, ⟨b_30, b_31, b_32, b_33, b_34⟩⟩ := b
  simp only [c_T_Val_at, INJ, @c_inj_iff _ _ c_T_Tensor_inj, @lm_inj_iff _ _ (inj_avf (inj_fm c_T_Tensor_len (by decide) c_T_Tensor_inj)), @fm_inj_iff _ _ (inj_fm c_T_Tensor_len (by decide) c_T_Tensor_inj)] at h
  simp_all
def TT0 := And.intro @ts2 <| And.intro @pt2 <| And.intro @st2 <| And.intro @ts3 <| And.intro @pt3 <| And.intro @st3 <| And.intro @ts4 <| And.intro @pt4 <| And.intro @sb4 <| And.intro @ts22 <| And.intro @pt22 <| And.intro @ia22 <| And.intro @io22 <| And.intro @le22 <| And.intro @ap22 <| And.intro @bs22 <| And.intro @sa22 <| And.intro @so22 <| And.intro @ts23 <| And.intro @pt23 <| And.intro @st23 <| And.intro @ts24 <| And.intro @pt24 <| And.intro @ia24 <| And.intro @io24 <| And.intro @le24 <| And.intro @ap24 <| And.intro @bs24 <| And.intro @sa24 <| And.intro @so24 <| And.intro @ts25 <| And.intro @pt25 <| And.intro @ia25 <| And.intro @io25 <| And.intro @le25 <| And.intro @ap25 <| And.intro @bs25 <| And.intro @sa25 <| And.intro @so25 <| @ts26
def TT1 := And.intro @pt26 <| And.intro @ia26 <| And.intro @io26 <| And.intro @le26 <| And.intro @ap26 <| And.intro @bs26 <| And.intro @sa26 <| And.intro @so26 <| And.intro @ts28 <| And.intro @pt28 <| And.intro @sg28 <| And.intro @ts31 <| And.intro @pt31 <| And.intro @ia31 <| And.intro @io31 <| And.intro @le31 <| And.intro @sa31 <| And.intro @so31 <| And.intro @ts46 <| And.intro @pt46 <| And.intro @ia46 <| And.intro @io46 <| And.intro @le46 <| And.intro @ap46 <| And.intro @af46 <| And.intro @bs46 <| And.intro @sa46 <| And.intro @so46 <| And.intro @ts51 <| And.intro @pt51 <| And.intro @sg51 <| And.intro @fo28_0 <| And.intro @fp28_0 <| And.intro @fr28_0 <| And.intro @fo28_1 <| And.intro @fp28_1 <| And.intro @fr28_1 <| And.intro @fo28_2 <| And.intro @fp28_2 <| @fr28_2
def TT2 := And.intro @fo28_3 <| And.intro @fp28_3 <| And.intro @fr28_3 <| And.intro @fo28_4 <| And.intro @fp28_4 <| And.intro @fr28_4 <| And.intro @fo51_0 <| And.intro @fp51_0 <| And.intro @fr51_0 <| And.intro @fo51_1 <| And.intro @fp51_1 <| And.intro @fr51_1 <| And.intro @fo51_2 <| And.intro @fp51_2 <| And.intro @fr51_2 <| And.intro @fo51_3 <| And.intro @fp51_3 <| And.intro @fr51_3 <| And.intro @bl28 <| And.intro @fl28_0 <| And.intro @fl28_1 <| And.intro @fl28_2 <| And.intro @fl28_3 <| And.intro @fl28_4 <| And.intro @bl51 <| And.intro @fl51_0 <| And.intro @fl51_1 <| And.intro @fl51_2 <| And.intro @fl51_3 <| And.intro @al28 <| And.intro @aq28 <| And.intro @al51 <| And.intro @aq51 <| And.intro @ab4 <| And.intro @ty22 <| And.intro @ty24 <| And.intro @ty25 <| And.intro @ty26 <| And.intro @ty28 <| @ty46
def TT3 := And.intro @c_T_Tensor_at <| And.intro (fun l => @one_fm _ c_T_Tensor l c_T_Tensor_one) <| And.intro @c_T_Val_at <| (fun l => @one_fm _ c_T_Val l c_T_Val_one)
def TT := And.intro @TT0 <| And.intro @TT1 <| And.intro @TT2 <| @TT3
def OF := And.intro (fun l => @one_fm _ c_T_Tensor l c_T_Tensor_one) <| (fun l => @one_fm _ c_T_Val l c_T_Val_one)
def NT := And.intro @c_T_Tensor_at <| @c_T_Val_at
def OZ := And.intro LN <| And.intro RO OF
theorem Zd {p : Prop} (h : p := by first | assumption | decide | with_unfolding_all rfl | omega | simp only [OZ] <;> omega | fail) : p := h
theorem Ze {p : Prop} (h : p := by first | rfl | (simp only [LN, NN, NT])) : p := h
theorem Zh {p : Prop} (h : p := by first | (simp (disch := first | exact Zd | fail) only [RR, simprocAttr, LN, NN, NT]; done) | (simp (disch := first | exact Zd | fail) only [RR, simprocAttr, LN, fm_app, NN, NT]; done) | rfl) : p := h
def FN := And.intro FF <| And.intro LN <| And.intro NN NT
theorem onf {e : Nat → Option AV} : opnd e (.const .nilFunc) = some (.v .nilFunc) := rfl
def ZZ := And.intro @onf <| And.intro @fnX_at <| And.intro RR <| And.intro RM <| And.intro LN <| And.intro TT RH
theorem Jc {β : Type} {m m' : Option AV} {s : Option β} {enc : β → AV} (j : J m' s enc) (h : m = m' := by conv => lhs; simp (disch := first | exact Zd | fail) only [ZZ, simprocAttr, *]) : J m s enc := J.eq h j
theorem Js {p : Prop} (h : p := by simp (maxSteps := 20000000) (disch := first | exact Zd | fail) only [ZZ, simprocAttr, FN, *]) : p := h
def IJ := And.intro (@c_inj_iff _ _ c_T_Tensor_inj) <| And.intro (@lm_inj_iff _ _ (inj_avf (inj_fm c_T_Tensor_len (by decide) c_T_Tensor_inj))) <| And.intro (@fm_inj_iff _ _ (inj_fm c_T_Tensor_len (by decide) c_T_Tensor_inj)) <| And.intro (@c_inj_iff _ _ c_T_Val_inj) <| And.intro (@lm_inj_iff _ _ (inj_avf (inj_fm c_T_Val_len (by decide) c_T_Val_inj))) <| (@fm_inj_iff _ _ (inj_fm c_T_Val_len (by decide) c_T_Val_inj))
theorem Zi {p : Prop} (h : p := by intro a b h; first | (exact rfl) | (simp only [INJ, IJ] at h; first | exact h | (simp_all [Prod.ext_iff]) )) : p := h
def ZG := And.intro ZZ <| And.intro RU <| And.intro @go_seq <| And.intro @ret_seq <| And.intro @Nat.sub_zero @Nat.zero_le
def ZN := And.intro ZZ RU
theorem Jg {β : Type} {m m' : Option AV} {s : Option β} {enc : β → AV} (j : J m' s enc) (h : m = m' := by conv => lhs; try simp (maxSteps := 20000000) (disch := first | exact Zd | fail) only [ZG, simprocAttr, *]) : J m s enc := J.eq h j
theorem Jn {β : Type} {m m' : Option AV} {s : Option β} {enc : β → AV} {i : Nat} {ρ τ : Type} {r : ρ} {fj : τ → Option β} (j : J m' (jn i r fj s) enc) (h : m = m' := by conv => lhs; simp (maxSteps := 20000000) (disch := first | exact Zd | fail) only [ZN, simprocAttr, *]) : J m (jn i r fj s) enc := J.eq h j
theorem Jk {β : Type} {m m' : Option AV} {s : Option β} {enc : β → AV} {i : Nat} {ρ τ : Type} {r : ρ} {fj : τ → Option β} (j : J m' (jc i r fj s) enc) (h : m = m' := by conv => lhs; simp (maxSteps := 20000000) (disch := first | exact Zd | fail) only [ZN, simprocAttr, *]) : J m (jc i r fj s) enc := J.eq h j
theorem Jl  {β : Type} {m m' : Option AV} {enc : β → AV} {σ : Type} {body : (σ → Option β) → σ → Option β} {k : Nat} {s0 : σ} (j : J m' (cloop body k s0) enc) (h : m = m' := by conv => lhs; simp (maxSteps := 20000000) (disch := first | exact Zd | fail) only [ZN, simprocAttr, *]) : J m (cloop body k s0) enc := J.eq h j
theorem Jw {p : Prop} (h : p := by simp (maxSteps := 20000000) (disch := first | exact Zd | fail) only [ZG, simprocAttr, FN, *]) : p := h
theorem Zx {p : Prop} (h : p := by first | rfl | (simp only [LN, NN, NT]; done) | (simp (disch := first | exact Zd | fail) only [RR, simprocAttr, LN, NN, NT]; done) | (simp (disch := first | exact Zd | fail) only [RR, simprocAttr, LN, fm_app, NN, NT]; done) | (simp (maxSteps := 20000000) (disch := first | exact Zd | fail) only [ZZ, simprocAttr, kinV_at, kinVB_at, FN, *]; done) | (simp (maxSteps := 20000000) (disch := first | exact Zd | fail) only [ZZ, simprocAttr, kinV_at, kinVB_at, fm_app, FN, *]; done)) : p := h
theorem J.gi {β : Type} {m : Option AV} {s : Option β} {enc : β → AV} {c : Prop} {dd : Decidable c} {s1 : Option β} (j : J m (if c then s else s1) enc) : J m (if c then s else s1) enc := j
theorem J.gj {β : Type} {m : Option AV} {s : Option β} {enc : β → AV} {i : Nat} {ρ τ : Type} {r : ρ} {fj : τ → Option β} (j : J m (jn i r fj s) enc) : J m (jn i r fj s) enc := j
theorem J.gk {β : Type} {m : Option AV} {s : Option β} {enc : β → AV} {i : Nat} {ρ τ : Type} {r : ρ} {fj : τ → Option β} (j : J m (jc i r fj s) enc) : J m (jc i r fj s) enc := j
theorem J.gl {β : Type} {m : Option AV} {enc : β → AV} {σ : Type} {body : (σ → Option β) → σ → Option β} {k : Nat} {s0 : σ} (j : J m (cloop body k s0) enc) : J m (cloop body k s0) enc := j
theorem Wk {p : Prop} (h : p := by repeat' first | with_reducible exact J.none | with_reducible refine J.chk fun c => ?_ | (with_reducible refine J.atI fun r a b c d => ?_; try simp only [Int.toNat_natCast, LN, Nat.sub_zero, Nat.zero_mul, Nat.zero_add, Nat.add_zero, List.drop_zero, simprocAttr] at b c d) | (with_reducible refine J.atB fun r a b c d => ?_; try simp only [Int.toNat_natCast, LN, Nat.sub_zero, Nat.zero_mul, Nat.zero_add, Nat.add_zero, List.drop_zero, simprocAttr] at b c d) | (with_reducible refine J.atL fun r a b c d => ?_; try simp only [Int.toNat_natCast, LN, Nat.sub_zero, Nat.zero_mul, Nat.zero_add, Nat.add_zero, List.drop_zero, simprocAttr] at b c d) | (with_reducible refine J.atN c_T_Tensor_len fun r b c d => ?_; try simp only [Int.toNat_natCast, LN, Nat.sub_zero, Nat.zero_mul, Nat.zero_add, Nat.add_zero, List.drop_zero, simprocAttr] at b c d) | (with_reducible refine J.atS c_T_Tensor_len fun r a b c d => ?_; try simp only [Int.toNat_natCast, LN, Nat.sub_zero, Nat.zero_mul, Nat.zero_add, Nat.add_zero, List.drop_zero, simprocAttr] at b c d) | (with_reducible refine J.atN c_T_Val_len fun r b c d => ?_; try simp only [Int.toNat_natCast, LN, Nat.sub_zero, Nat.zero_mul, Nat.zero_add, Nat.add_zero, List.drop_zero, simprocAttr] at b c d) | (with_reducible refine J.atS c_T_Val_len fun r a b c d => ?_; try simp only [Int.toNat_natCast, LN, Nat.sub_zero, Nat.zero_mul, Nat.zero_add, Nat.add_zero, List.drop_zero, simprocAttr] at b c d) | (with_reducible refine J.atM (c := c_T_Tensor) fun r a b c d => ?_; try simp only [Int.toNat_natCast, LN, Nat.sub_zero, Nat.zero_mul, Nat.zero_add, Nat.add_zero, List.drop_zero, simprocAttr] at b c d) | (with_reducible refine J.atM (c := c_T_Val) fun r a b c d => ?_; try simp only [Int.toNat_natCast, LN, Nat.sub_zero, Nat.zero_mul, Nat.zero_add, Nat.add_zero, List.drop_zero, simprocAttr] at b c d) | with_reducible refine J.sat fun r a => ?_ | ((with_reducible refine J.bind fun x h => ?_); (first | with_reducible have e := H1.ap h | with_reducible have e := H2.ap h | with_reducible have e := H3.ap h | with_reducible have e := H4.ap h); try simp only [NN, NT, LN, simprocAttr, DT] at e) | (with_reducible refine J.some ?_; exact Jw) | (with_reducible refine J.gi ?_; refine Jg ?_; first | with_reducible refine J.iteLt (fun h k => ?_) (fun h k => ?_) | with_reducible refine J.iteLe (fun h k => ?_) (fun h k => ?_) | with_reducible refine J.iteEq (fun h k l => ?_) (fun h => ?_) | with_reducible refine J.iteB (fun h => ?_) (fun h => ?_) | with_reducible refine J.iteD (fun h => ?_) (fun h => ?_)) | (first | with_reducible refine J.hd (W1.eq_1 ..) ?_ | with_reducible refine J.hd (W2.eq_1 ..) ?_ | with_reducible refine J.hd (W3.eq_1 ..) ?_) | (with_reducible refine J.gj ?_; first | (first | (refine J.joinT j1 rfl (by intro; conv => lhs; simp (disch := first | exact Zd | fail) only [j1, ZN, simprocAttr]) (by intro; conv => lhs; simp (disch := first | exact Zd | fail) only [j1, ZN, simprocAttr]) (fun t => J.hd (k1.eq_1 ..) ?_) (fun a1 => ?_); all_goals try simp only [Prod.forall, unit_all] at a1) | (refine J.joinT j2 rfl (by intro; conv => lhs; simp (disch := first | exact Zd | fail) only [j2, ZN, simprocAttr]) (by intro; conv => lhs; simp (disch := first | exact Zd | fail) only [j2, ZN, simprocAttr]) (fun t => J.hd (k2.eq_1 ..) ?_) (fun a2 => ?_); all_goals try simp only [Prod.forall, unit_all] at a2) | (refine J.joinT j3 rfl (by intro; conv => lhs; simp (disch := first | exact Zd | fail) only [j3, ZN, simprocAttr]) (by intro; conv => lhs; simp (disch := first | exact Zd | fail) only [j3, ZN, simprocAttr]) (fun t => J.hd (k3.eq_1 ..) ?_) (fun a3 => ?_); all_goals try simp only [Prod.forall, unit_all] at a3) | refine J.sqj ?_ | refine J.rqj ?_) | (refine Jn ?_; first | (refine J.joinT j1 rfl (by intro; conv => lhs; simp (disch := first | exact Zd | fail) only [j1, ZN, simprocAttr]) (by intro; conv => lhs; simp (disch := first | exact Zd | fail) only [j1, ZN, simprocAttr]) (fun t => J.hd (k1.eq_1 ..) ?_) (fun a1 => ?_); all_goals try simp only [Prod.forall, unit_all] at a1) | (refine J.joinT j2 rfl (by intro; conv => lhs; simp (disch := first | exact Zd | fail) only [j2, ZN, simprocAttr]) (by intro; conv => lhs; simp (disch := first | exact Zd | fail) only [j2, ZN, simprocAttr]) (fun t => J.hd (k2.eq_1 ..) ?_) (fun a2 => ?_); all_goals try simp only [Prod.forall, unit_all] at a2) | (refine J.joinT j3 rfl (by intro; conv => lhs; simp (disch := first | exact Zd | fail) only [j3, ZN, simprocAttr]) (by intro; conv => lhs; simp (disch := first | exact Zd | fail) only [j3, ZN, simprocAttr]) (fun t => J.hd (k3.eq_1 ..) ?_) (fun a3 => ?_); all_goals try simp only [Prod.forall, unit_all] at a3) | refine J.sqj ?_ | refine J.rqj ?_)) | (with_reducible refine J.gl ?_; first | (first | refine J.loopT m1 rfl (by intro; conv => lhs; simp (disch := first | exact Zd | fail) only [m1, ZN, simprocAttr]) (by intro; conv => lhs; simp (disch := first | exact Zd | fail) only [m1, ZN, simprocAttr]) Zx Zx (fun next k n s => J.hd (L1.eq_1 ..) ?_) | refine J.loopT m2 rfl (by intro; conv => lhs; simp (disch := first | exact Zd | fail) only [m2, ZN, simprocAttr]) (by intro; conv => lhs; simp (disch := first | exact Zd | fail) only [m2, ZN, simprocAttr]) Zx Zx (fun next k n s => J.hd (L2.eq_1 ..) ?_) | refine J.loopT m3 rfl (by intro; conv => lhs; simp (disch := first | exact Zd | fail) only [m3, ZN, simprocAttr]) (by intro; conv => lhs; simp (disch := first | exact Zd | fail) only [m3, ZN, simprocAttr]) Zx Zx (fun next k n s => J.hd (L3.eq_1 ..) ?_) | refine J.sql ?_ | refine J.rql ?_) | (refine Jl ?_; first | refine J.loopT m1 rfl (by intro; conv => lhs; simp (disch := first | exact Zd | fail) only [m1, ZN, simprocAttr]) (by intro; conv => lhs; simp (disch := first | exact Zd | fail) only [m1, ZN, simprocAttr]) Zx Zx (fun next k n s => J.hd (L1.eq_1 ..) ?_) | refine J.loopT m2 rfl (by intro; conv => lhs; simp (disch := first | exact Zd | fail) only [m2, ZN, simprocAttr]) (by intro; conv => lhs; simp (disch := first | exact Zd | fail) only [m2, ZN, simprocAttr]) Zx Zx (fun next k n s => J.hd (L2.eq_1 ..) ?_) | refine J.loopT m3 rfl (by intro; conv => lhs; simp (disch := first | exact Zd | fail) only [m3, ZN, simprocAttr]) (by intro; conv => lhs; simp (disch := first | exact Zd | fail) only [m3, ZN, simprocAttr]) Zx Zx (fun next k n s => J.hd (L3.eq_1 ..) ?_) | refine J.sql ?_ | refine J.rql ?_)) | (refine Jg ?_; first | ((with_reducible apply a1) <;> first | exact () | exact Zx) | ((with_reducible apply a2) <;> first | exact () | exact Zx) | ((with_reducible apply a3) <;> first | exact () | exact Zx) | ((with_reducible apply b1) <;> first | exact () | exact Zx) | ((with_reducible apply b2) <;> first | exact () | exact Zx) | ((with_reducible apply b3) <;> first | exact () | exact Zx) | refine J.nextT (by assumption) Zx Zx)) : p := h
def d10 : List (Nat × List Nat) := [(0, [0]), (0, []), (0, [4, 5, 6]), (0, []), (0, [7, 8, 9, 10, 11, 12]), (0, []), (0, [13, 14, 15, 16, 17, 18]), (0, []), (0, [19, 20, 21, 22, 23, 24]), (0, []), (0, [1, 25, 26, 27, 28, 29, 30]), (0, []), (0, [3, 31])]
def d10_at := by have h := tabL d10.eq_1; simp only [AllAt, Nat.zero_add, Nat.reduceAdd] at h; exact h
theorem i10 : finfo Tryz.prog 10 d10 = some ⟨bodyOf Tryz.f10, [.cell 2 28], [28]⟩ := finfo_at Tryz.func10 rfl (by kernel_rfl) (by kernel_rfl)
def e10 : T_Tensor → AV := fun r => .agg [.v (.int .i64 r.fType), .fresh 1 r.fDims.length (lm (ik .i64) r.fDims), .fresh 1 r.fF.length (lm (ik .u32) r.fF), .fresh 1 r.fI.length (lm (ik .i64) r.fI), .fresh 1 r.fB.length (lm (bk) r.fB)]
set_option maxHeartbeats 20000000 in
theorem w10 (cp : CallP) (fu : Nat) (x1 : T_Tensor)  : J (go Tryz.prog noC cp noI 0 [] d10 fu (fin Tryz.prog [.cell 2 28] [28]) (bodyOf Tryz.f10) (initE 0 [.agg (c_T_Tensor x1)]) [] []) (ref05_Copy fu x1) e10 := by
 unfold ref05_Copy e10
 have da := d10_at
 conv => arg 1; simp only [bodyOf, Tryz.f10]
 have z0 := d10_at
 exact Wk
theorem ok10 (fu : Nat) (x1 : T_Tensor) (r) (h : ref05_Copy fu x1 = some r) : PureOK Tryz.prog 10 [.agg (c_T_Tensor x1)] (e10 r) := pureT mixed [] (ids := []) rfl (by decide) i10 (C := noC) (ci := fun cp => noI) (fun cp ok => noI_ok) (fun cp H => w10 cp fu x1 ) h
def d19 : List (Nat × List Nat) := [(0, [2]), (0, [0, 4]), (0, [8000003]), (0, []), (0, []), (0, []), (0, [6, 7, 8]), (0, []), (0, [10, 11]), (0, []), (0, [12]), (0, []), (0, [13, 14, 15, 16, 17]), (0, []), (11, [19, 20, 21, 22, 23, 24, 25, 26, 27, 28, 29]), (0, []), (7, [30, 31, 32, 33, 34, 35, 36, 37, 38]), (0, []), (0, [5, 39, 40, 41, 42]), (0, []), (0, [3, 43])]
def d19_at := by have h := tabL d19.eq_1; simp only [AllAt, Nat.zero_add, Nat.reduceAdd] at h; exact h
theorem i19 : finfo Tryz.prog 19 d19 = some ⟨bodyOf Tryz.f19, [.tmp 2], [46]⟩ := finfo_at Tryz.func19 rfl (by kernel_rfl) (by kernel_rfl)
def e19 : (List T_Val) → AV := fun r => .arr r.length (fm c_T_Val r)
structure K10 (fu : Nat) (cp : CallP) : Prop where
 ap : ∀ {a0 : T_Tensor} {r}, ref05_Copy fu a0 = some r → cp 10 [.agg (c_T_Tensor a0)] = some (.agg [.v (.int .i64 r.fType), .fresh 1 r.fDims.length (lm (ik .i64) r.fDims), .fresh 1 r.fF.length (lm (ik .u32) r.fF), .fresh 1 r.fI.length (lm (ik .i64) r.fI), .fresh 1 r.fB.length (lm (bk) r.fB)])
noncomputable def C10 (fu : Nat) : Cm Tryz.prog T_Tensor T_Tensor := ⟨10, fun t => [.agg (c_T_Tensor t)], fun t => ref05_Copy fu t, e10, fun t b h => ok10 fu t  b h, Zi⟩
theorem u10 {fu : Nat} {cp : CallP} (H : Hit cp (C10 fu).ct) : K10 fu cp := ⟨fun {a0 r} h => (C10 fu).at H a0 r h⟩
def ref11_Vals.m1 : LJ 1 6 Unit ((List T_Val) × Int) := ⟨fun r s e => [(0, er e 0), (3, .own (0, 3, 77) 0 s.1.length s.1.length), (4, .v (.int .i64 s.2))], fun r s h => [((0, 3, 77), .sl true true 8 s.1.length (fm c_T_Val s.1))]⟩
set_option maxHeartbeats 20000000 in
open ref11_Vals in
theorem w19 (cp : CallP) (fu : Nat) (x1 : List T_Tensor) (H1 : K10 fu cp) : J (go Tryz.prog noC cp noI 0 [] d19 fu (finS Tryz.prog [.tmp 2] [46]) (bodyOf Tryz.f19) (initE 0 [.arr x1.length (fm c_T_Tensor x1)]) [] []) (ref11_Vals fu x1) e19 := by
 unfold ref11_Vals e19
 have da := d19_at
 conv => arg 1; simp only [bodyOf, Tryz.f19]
 have z0 := d19_at
 have z1 := SE
 exact Wk
theorem ok19 (fu : Nat) (x1 : List T_Tensor) (r) (h : ref11_Vals fu x1 = some r) : PureOK Tryz.prog 19 [.arr x1.length (fm c_T_Tensor x1)] (e19 r) := pureST mixed [(C10 fu).ct] (ids := [10]) rfl (by decide) i19 (C := noC) (ci := fun cp => noI) (fun cp ok => noI_ok) (fun cp H => w19 cp fu x1 (u10 H.1)) h
def d16 : List (Nat × List Nat) := [(0, [4]), (0, [0, 1, 5]), (0, [6, 7, 8, 9]), (0, []), (0, []), (0, []), (0, []), (0, []), (0, [11, 12, 13]), (0, []), (0, [15, 16]), (0, []), (9, [17, 18, 19, 20, 21, 22, 23, 24]), (0, []), (0, []), (0, []), (0, [])]
def d16_at := by have h := tabL d16.eq_1; simp only [AllAt, Nat.zero_add, Nat.reduceAdd] at h; exact h
theorem i16 : finfo Tryz.prog 16 d16 = some ⟨bodyOf Tryz.f16, [.tmp 4], [4]⟩ := finfo_at Tryz.func16 rfl (by kernel_rfl) (by kernel_rfl)
def e16 : Bool → AV := fun r => .v (.bool r)
def ref04_SameInts.m1 : LJ 1 8 Unit Int := ⟨fun r s e => [(0, er e 0), (1, er e 1), (5, .v (.int .i64 s))], fun r s h => []⟩
set_option maxHeartbeats 20000000 in
open ref04_SameInts in
theorem w16 (cp : CallP) (fu : Nat) (x1 : List Int) (x2 : List Int)  : J (go Tryz.prog noC cp noI 0 [] d16 fu (fin Tryz.prog [.tmp 4] [4]) (bodyOf Tryz.f16) (initE 0 [.arr x1.length (lm (ik .i64) x1), .arr x2.length (lm (ik .i64) x2)]) [] []) (ref04_SameInts fu x1 x2) e16 := by
 unfold ref04_SameInts e16
 have da := d16_at
 conv => arg 1; simp only [bodyOf, Tryz.f16]
 have z0 := d16_at
 exact Wk
theorem ok16 (fu : Nat) (x1 : List Int) (x2 : List Int) (r) (h : ref04_SameInts fu x1 x2 = some r) : PureOK Tryz.prog 16 [.arr x1.length (lm (ik .i64) x1), .arr x2.length (lm (ik .i64) x2)] (e16 r) := pureT mixed [] (ids := []) rfl (by decide) i16 (C := noC) (ci := fun cp => noI) (fun cp ok => noI_ok) (fun cp H => w16 cp fu x1 x2 ) h
def d13 : List (Nat × List Nat) := [(0, [0, 1, 4]), (0, [5]), (0, [8, 9, 10, 11, 12, 13, 14, 15, 16, 17, 18, 19, 20, 21, 22, 23, 24, 25, 26, 27, 28, 29, 30, 31, 32, 33, 34, 35, 36, 37, 38, 39, 40, 41, 42, 43, 44, 45, 46]), (0, []), (0, []), (0, [6]), (0, []), (0, []), (0, [48, 49, 50, 51]), (0, [2, 3, 7]), (0, [53, 54]), (0, []), (11, [55, 56, 57, 58, 59, 60, 61, 62, 63, 64]), (0, []), (0, []), (0, []), (0, []), (0, []), (0, [66, 67, 68, 69]), (0, []), (0, [71, 72]), (0, []), (11, [73, 74, 75, 76, 77, 78, 79, 80, 81, 82]), (0, []), (0, []), (0, []), (0, []), (0, []), (0, [84, 85, 86, 87]), (0, []), (0, [89, 90]), (0, []), (11, [91, 92, 93, 94, 95, 96, 97, 98, 99, 100]), (0, []), (0, []), (0, []), (0, [])]
def d13_at := by have h := tabL d13.eq_1; simp only [AllAt, Nat.zero_add, Nat.reduceAdd] at h; exact h
theorem i13 : finfo Tryz.prog 13 d13 = some ⟨bodyOf Tryz.f13, [.tmp 4], [4]⟩ := finfo_at Tryz.func13 rfl (by kernel_rfl) (by kernel_rfl)
def e13 : Bool → AV := fun r => .v (.bool r)
structure K16 (fu : Nat) (cp : CallP) : Prop where
 ap : ∀ {a0 : List Int} {a1 : List Int} {r}, ref04_SameInts fu a0 a1 = some r → cp 16 [.arr a0.length (lm (ik .i64) a0), .arr a1.length (lm (ik .i64) a1)] = some (.v (.bool r))
noncomputable def C16 (fu : Nat) : Cm Tryz.prog ((List Int) × (List Int)) Bool := ⟨16, fun t => [.arr t.1.length (lm (ik .i64) t.1), .arr t.2.length (lm (ik .i64) t.2)], fun t => ref04_SameInts fu t.1 t.2, e16, fun t b h => ok16 fu t.1 t.2  b h, Zi⟩
theorem u16 {fu : Nat} {cp : CallP} (H : Hit cp (C16 fu).ct) : K16 fu cp := ⟨fun {a0 a1 r} h => (C16 fu).at H (a0, a1) r h⟩
def ref05_Same.m1 : LJ 1 28 Unit Int := ⟨fun r s e => [(2, er e 2), (3, er e 3), (7, .v (.int .i64 s))], fun r s h => [((0, 2, 0), hr h (0, 2, 0)), ((0, 3, 0), hr h (0, 3, 0))]⟩
def ref05_Same.m2 : LJ 2 18 Unit Int := ⟨fun r s e => [(2, er e 2), (3, er e 3), (6, .v (.int .i64 s))], fun r s h => [((0, 2, 0), hr h (0, 2, 0)), ((0, 3, 0), hr h (0, 3, 0))]⟩
def ref05_Same.j3 : LJ 3 26 Unit Unit := ⟨fun r t e => [(2, er e 2), (3, er e 3)], fun r t h => [((0, 2, 0), hr h (0, 2, 0)), ((0, 3, 0), hr h (0, 3, 0))]⟩
def ref05_Same.m3 : LJ 3 8 Unit Int := ⟨fun r s e => [(2, er e 2), (3, er e 3), (5, .v (.int .i64 s))], fun r s h => [((0, 2, 0), hr h (0, 2, 0)), ((0, 3, 0), hr h (0, 3, 0))]⟩
def ref05_Same.j2 : LJ 2 16 Unit Unit := ⟨fun r t e => [(2, er e 2), (3, er e 3)], fun r t h => [((0, 2, 0), hr h (0, 2, 0)), ((0, 3, 0), hr h (0, 3, 0))]⟩
def ref05_Same.j1 : LJ 1 6 Unit Unit := ⟨fun r t e => [(2, er e 2), (3, er e 3)], fun r t h => [((0, 2, 0), hr h (0, 2, 0)), ((0, 3, 0), hr h (0, 3, 0))]⟩
set_option maxHeartbeats 20000000 in
open ref05_Same in
theorem w13 (cp : CallP) (fu : Nat) (x1 : T_Tensor) (x2 : T_Tensor) (H1 : K16 fu cp) : J (go Tryz.prog noC cp noI 0 [] d13 fu (fin Tryz.prog [.tmp 4] [4]) (bodyOf Tryz.f13) (initE 0 [.agg (c_T_Tensor x1), .agg (c_T_Tensor x2)]) [] []) (ref05_Same fu x1 x2) e13 := by
 unfold ref05_Same e13
 have da := d13_at
 conv => arg 1; simp only [bodyOf, Tryz.f13]
 have z0 := d13_at
 exact Wk
theorem ok13 (fu : Nat) (x1 : T_Tensor) (x2 : T_Tensor) (r) (h : ref05_Same fu x1 x2 = some r) : PureOK Tryz.prog 13 [.agg (c_T_Tensor x1), .agg (c_T_Tensor x2)] (e13 r) := pureT mixed [(C16 fu).ct] (ids := [16]) rfl (by decide) i13 (C := noC) (ci := fun cp => noI) (fun cp ok => noI_ok) (fun cp H => w13 cp fu x1 x2 (u16 H.1)) h
def d48 : List (Nat × List Nat) := [(0, [2]), (0, []), (0, [3]), (0, []), (0, []), (0, []), (0, [0, 5, 6, 7])]
def d48_at := And.intro (show d48.getD 0 (0, []) = (0, [2]) from rfl) <| And.intro (show d48.getD 1 (0, []) = (0, []) from rfl) <| And.intro (show d48.getD 2 (0, []) = (0, [3]) from rfl) <| And.intro (show d48.getD 3 (0, []) = (0, []) from rfl) <| And.intro (show d48.getD 4 (0, []) = (0, []) from rfl) <| And.intro (show d48.getD 5 (0, []) = (0, []) from rfl) <| (show d48.getD 6 (0, []) = (0, [0, 5, 6, 7]) from rfl)
theorem i48 : finfo Tryz.prog 48 d48 = some ⟨bodyOf Tryz.f48, [.tmp 2], [22]⟩ := finfo_at Tryz.func48 rfl (by kernel_rfl) (by kernel_rfl)
def e48 : List Int → AV := fun r => .fresh 1 r.length (lm (ik .i64) r)
theorem ok48 (fu : Nat) (x1 : List Int) (r) (h : slices_Clone_int fu x1 = some r) : PureOK Tryz.prog 48 [.arr x1.length (lm (ik .i64) x1)] (e48 r) := by
  unfold slices_Clone_int chk at h
  split at h
  · rename_i hs; injection h with h; subst h
    cases x1 with
    | nil =>
      refine PureOK.arr0 fun a c => ?_
      refine pure_J mixed (C := noC) (cp := noP) (n := 0) noP_ok noI_ok i48 (s := some []) (enc := e48) ?_ rfl
      refine J.some ?_
      unfold e48
      cases a with
      | none =>
        conv => lhs; simp (disch := first | exact Zd | fail) only [bodyOf, Tryz.f48, ZZ, d48_at, simprocAttr, abin_sl tv22]
        rw [go_seq]
        simp (disch := first | exact Zd | fail) only [ZZ, d48_at, simprocAttr, abin_sl tv22, FF, NN, NT]
      | some a =>
        conv => lhs; simp (disch := first | exact Zd | fail) only [bodyOf, Tryz.f48, ZZ, d48_at, simprocAttr, abin_sl tv22]
        rw [go_seq]
        conv => lhs; simp (disch := first | exact Zd | fail) only [ZZ, d48_at, simprocAttr, abin_sl tv22]
        rw [ret_seq]
        simp (disch := first | exact Zd | fail) only [ZZ, d48_at, simprocAttr, abin_sl tv22, FF, NN, NT]
    | cons y x1 =>
      refine pure_J mixed (C := noC) (cp := noP) (n := 0) noP_ok noI_ok i48 (s := some (y :: x1)) (enc := e48) ?_ rfl
      refine J.some ?_
      have ha : ∀ xs, abin Tryz.prog .eql 22 (.arr (y :: x1).length xs) (.v (.slice none 0 0)) = some (.v (.bool false)) := fun xs => abin_an (op := .eql) tv22 (by simp)
      generalize y :: x1 = l at hs ha ⊢
      unfold e48
      conv => lhs; simp (disch := first | exact Zd | fail) only [bodyOf, Tryz.f48, ZZ, d48_at, simprocAttr, abin_sl tv22, ha]
      rw [go_seq]
      conv => lhs; simp (disch := first | exact Zd | fail) only [ZZ, d48_at, simprocAttr, abin_sl tv22, ha]
      rw [ret_seq]
      simp (disch := first | exact Zd | fail) only [ZZ, d48_at, simprocAttr, abin_sl tv22, FF, NN, NT, lm_length]
  · cases h
def d102 : List (Nat × List Nat) := [(0, [2]), (0, []), (0, [0, 3, 4, 5])]
def d102_at := by have h := tabL d102.eq_1; simp only [AllAt, Nat.zero_add, Nat.reduceAdd] at h; exact h
theorem i102 : finfo Tryz.prog 102 d102 = some ⟨bodyOf Tryz.f102, [.tmp 2], [22]⟩ := finfo_at Tryz.func102 rfl (by kernel_rfl) (by kernel_rfl)
def e102 : (List Int) → AV := fun r => .fresh 1 r.length (lm (ik .i64) r)
set_option maxHeartbeats 20000000 in
theorem w102 (cp : CallP) (fu : Nat) (x1 : List Int)  : J (go Tryz.prog noC cp noI 0 [] d102 fu (fin Tryz.prog [.tmp 2] [22]) (bodyOf Tryz.f102) (initE 0 [.arr x1.length (lm (ik .i64) x1)]) [] []) (tens_own_int fu x1) e102 := by
 unfold tens_own_int e102
 have da := d102_at
 conv => arg 1; simp only [bodyOf, Tryz.f102]
 have z0 := d102_at
 exact Wk
theorem ok102 (fu : Nat) (x1 : List Int) (r) (h : tens_own_int fu x1 = some r) : PureOK Tryz.prog 102 [.arr x1.length (lm (ik .i64) x1)] (e102 r) := pureT mixed [] (ids := []) rfl (by decide) i102 (C := noC) (ci := fun cp => noI) (fun cp ok => noI_ok) (fun cp H => w102 cp fu x1 ) h
def d103 : List (Nat × List Nat) := [(0, [2]), (0, []), (0, [0, 3, 4, 5])]
def d103_at := by have h := tabL d103.eq_1; simp only [AllAt, Nat.zero_add, Nat.reduceAdd] at h; exact h
theorem i103 : finfo Tryz.prog 103 d103 = some ⟨bodyOf Tryz.f103, [.tmp 2], [24]⟩ := finfo_at Tryz.func103 rfl (by kernel_rfl) (by kernel_rfl)
def e103 : (List Int) → AV := fun r => .fresh 1 r.length (lm (ik .u32) r)
set_option maxHeartbeats 20000000 in
theorem w103 (cp : CallP) (fu : Nat) (x1 : List Int)  : J (go Tryz.prog noC cp noI 0 [] d103 fu (fin Tryz.prog [.tmp 2] [24]) (bodyOf Tryz.f103) (initE 0 [.arr x1.length (lm (ik .u32) x1)]) [] []) (tens_own_uint32 fu x1) e103 := by
 unfold tens_own_uint32 e103
 have da := d103_at
 conv => arg 1; simp only [bodyOf, Tryz.f103]
 have z0 := d103_at
 exact Wk
theorem ok103 (fu : Nat) (x1 : List Int) (r) (h : tens_own_uint32 fu x1 = some r) : PureOK Tryz.prog 103 [.arr x1.length (lm (ik .u32) x1)] (e103 r) := pureT mixed [] (ids := []) rfl (by decide) i103 (C := noC) (ci := fun cp => noI) (fun cp ok => noI_ok) (fun cp H => w103 cp fu x1 ) h
def d104 : List (Nat × List Nat) := [(0, [2]), (0, []), (0, [0, 3, 4, 5])]
def d104_at := by have h := tabL d104.eq_1; simp only [AllAt, Nat.zero_add, Nat.reduceAdd] at h; exact h
theorem i104 : finfo Tryz.prog 104 d104 = some ⟨bodyOf Tryz.f104, [.tmp 2], [25]⟩ := finfo_at Tryz.func104 rfl (by kernel_rfl) (by kernel_rfl)
def e104 : (List Int) → AV := fun r => .fresh 1 r.length (lm (ik .i64) r)
set_option maxHeartbeats 20000000 in
theorem w104 (cp : CallP) (fu : Nat) (x1 : List Int)  : J (go Tryz.prog noC cp noI 0 [] d104 fu (fin Tryz.prog [.tmp 2] [25]) (bodyOf Tryz.f104) (initE 0 [.arr x1.length (lm (ik .i64) x1)]) [] []) (tens_own_int64 fu x1) e104 := by
 unfold tens_own_int64 e104
 have da := d104_at
 conv => arg 1; simp only [bodyOf, Tryz.f104]
 have z0 := d104_at
 exact Wk
theorem ok104 (fu : Nat) (x1 : List Int) (r) (h : tens_own_int64 fu x1 = some r) : PureOK Tryz.prog 104 [.arr x1.length (lm (ik .i64) x1)] (e104 r) := pureT mixed [] (ids := []) rfl (by decide) i104 (C := noC) (ci := fun cp => noI) (fun cp ok => noI_ok) (fun cp H => w104 cp fu x1 ) h
def d105 : List (Nat × List Nat) := [(0, [2]), (0, []), (0, [0, 3, 4, 5])]
def d105_at := by have h := tabL d105.eq_1; simp only [AllAt, Nat.zero_add, Nat.reduceAdd] at h; exact h
theorem i105 : finfo Tryz.prog 105 d105 = some ⟨bodyOf Tryz.f105, [.tmp 2], [26]⟩ := finfo_at Tryz.func105 rfl (by kernel_rfl) (by kernel_rfl)
def e105 : (List Bool) → AV := fun r => .fresh 1 r.length (lm (bk) r)
set_option maxHeartbeats 20000000 in
theorem w105 (cp : CallP) (fu : Nat) (x1 : List Bool)  : J (go Tryz.prog noC cp noI 0 [] d105 fu (fin Tryz.prog [.tmp 2] [26]) (bodyOf Tryz.f105) (initE 0 [.arr x1.length (lm (bk) x1)]) [] []) (tens_own_bool fu x1) e105 := by
 unfold tens_own_bool e105
 have da := d105_at
 conv => arg 1; simp only [bodyOf, Tryz.f105]
 have z0 := d105_at
 exact Wk
theorem ok105 (fu : Nat) (x1 : List Bool) (r) (h : tens_own_bool fu x1 = some r) : PureOK Tryz.prog 105 [.arr x1.length (lm (bk) x1)] (e105 r) := pureT mixed [] (ids := []) rfl (by decide) i105 (C := noC) (ci := fun cp => noI) (fun cp ok => noI_ok) (fun cp H => w105 cp fu x1 ) h
def d49 : List (Nat × List Nat) := [(0, [0]), (0, []), (15, [1, 3, 4, 5, 6, 7, 8, 9, 10, 11, 12, 13, 14, 15, 16, 17])]
def d49_at := by have h := tabL d49.eq_1; simp only [AllAt, Nat.zero_add, Nat.reduceAdd] at h; exact h
theorem i49 : finfo Tryz.prog 49 d49 = some ⟨bodyOf Tryz.f49, [.cell 2 28], [28]⟩ := finfo_at Tryz.func49 rfl (by kernel_rfl) (by kernel_rfl)
def e49 : T_Tensor → AV := fun r => .agg [.v (.int .i64 r.fType), .fresh 1 r.fDims.length (lm (ik .i64) r.fDims), .fresh 1 r.fF.length (lm (ik .u32) r.fF), .fresh 1 r.fI.length (lm (ik .i64) r.fI), .fresh 1 r.fB.length (lm (bk) r.fB)]
structure K102 (fu : Nat) (cp : CallP) : Prop where
 ap : ∀ {a0 : List Int} {r}, tens_own_int fu a0 = some r → cp 102 [.arr a0.length (lm (ik .i64) a0)] = some (.fresh 1 r.length (lm (ik .i64) r))
noncomputable def C102 (fu : Nat) : Cm Tryz.prog (List Int) (List Int) := ⟨102, fun t => [.arr t.length (lm (ik .i64) t)], fun t => tens_own_int fu t, e102, fun t b h => ok102 fu t  b h, Zi⟩
theorem u102 {fu : Nat} {cp : CallP} (H : Hit cp (C102 fu).ct) : K102 fu cp := ⟨fun {a0 r} h => (C102 fu).at H a0 r h⟩
structure K103 (fu : Nat) (cp : CallP) : Prop where
 ap : ∀ {a0 : List Int} {r}, tens_own_uint32 fu a0 = some r → cp 103 [.arr a0.length (lm (ik .u32) a0)] = some (.fresh 1 r.length (lm (ik .u32) r))
noncomputable def C103 (fu : Nat) : Cm Tryz.prog (List Int) (List Int) := ⟨103, fun t => [.arr t.length (lm (ik .u32) t)], fun t => tens_own_uint32 fu t, e103, fun t b h => ok103 fu t  b h, Zi⟩
theorem u103 {fu : Nat} {cp : CallP} (H : Hit cp (C103 fu).ct) : K103 fu cp := ⟨fun {a0 r} h => (C103 fu).at H a0 r h⟩
structure K104 (fu : Nat) (cp : CallP) : Prop where
 ap : ∀ {a0 : List Int} {r}, tens_own_int64 fu a0 = some r → cp 104 [.arr a0.length (lm (ik .i64) a0)] = some (.fresh 1 r.length (lm (ik .i64) r))
noncomputable def C104 (fu : Nat) : Cm Tryz.prog (List Int) (List Int) := ⟨104, fun t => [.arr t.length (lm (ik .i64) t)], fun t => tens_own_int64 fu t, e104, fun t b h => ok104 fu t  b h, Zi⟩
theorem u104 {fu : Nat} {cp : CallP} (H : Hit cp (C104 fu).ct) : K104 fu cp := ⟨fun {a0 r} h => (C104 fu).at H a0 r h⟩
structure K105 (fu : Nat) (cp : CallP) : Prop where
 ap : ∀ {a0 : List Bool} {r}, tens_own_bool fu a0 = some r → cp 105 [.arr a0.length (lm (bk) a0)] = some (.fresh 1 r.length (lm (bk) r))
noncomputable def C105 (fu : Nat) : Cm Tryz.prog (List Bool) (List Bool) := ⟨105, fun t => [.arr t.length (lm (bk) t)], fun t => tens_own_bool fu t, e105, fun t b h => ok105 fu t  b h, Zi⟩
theorem u105 {fu : Nat} {cp : CallP} (H : Hit cp (C105 fu).ct) : K105 fu cp := ⟨fun {a0 r} h => (C105 fu).at H a0 r h⟩
set_option maxHeartbeats 20000000 in
theorem w49 (cp : CallP) (fu : Nat) (x1 : T_Tensor) (H1 : K102 fu cp) (H2 : K103 fu cp) (H3 : K104 fu cp) (H4 : K105 fu cp) : J (go Tryz.prog noC cp noI 0 [] d49 fu (fin Tryz.prog [.cell 2 28] [28]) (bodyOf Tryz.f49) (initE 0 [.agg (c_T_Tensor x1)]) [] []) (tens_Copy fu x1) e49 := by
 unfold tens_Copy e49
 have da := d49_at
 conv => arg 1; simp only [bodyOf, Tryz.f49]
 have z0 := d49_at
 exact Wk
theorem ok49 (fu : Nat) (x1 : T_Tensor) (r) (h : tens_Copy fu x1 = some r) : PureOK Tryz.prog 49 [.agg (c_T_Tensor x1)] (e49 r) := pureT mixed [(C102 fu).ct, (C103 fu).ct, (C104 fu).ct, (C105 fu).ct] (ids := [102, 103, 104, 105]) rfl (by decide) i49 (C := noC) (ci := fun cp => noI) (fun cp ok => noI_ok) (fun cp H => w49 cp fu x1 (u102 H.1) (u103 H.2.1) (u104 H.2.2.1) (u105 H.2.2.2.1)) h
end Go.Av
