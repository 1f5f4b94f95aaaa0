/- The walks of the plain functions. Made by a program of mine. Conditions: none. -/
import Derived.Test.YtoeineoiofjfdaaQ3S
import Derived.Test.YtoeineoiofjfdaaProg
set_option linter.unusedVariables false
set_option linter.unusedSimpArgs false
set_option linter.defProp false
set_option maxRecDepth 4000
open Go Go.Proofs
namespace Go.Av
theorem mixed : Try.prog.follows .mixedOrders = true := by kernel_rfl
def bodyOf (f : Func) : Code := f.body.getD .skip
theorem tv3 : tview Try.prog 3 = some (.int .i64) := by kernel_rfl
theorem ts3 : tsize Try.prog 3 = 1 := by kernel_rfl
theorem pt3 : ∀ {xs : List AV} {off : Nat}, part Try.prog xs 3 off = xs[off]? := part_one (fun _ _ h => by rw [tv3] at h; cases h) (by rw [tv3]; trivial)
theorem st3 : ∀ {h : Heap} {id : Id} {off ext : Nat} {k : IntKind} {z : Int}, stX Try.prog 3 h (.ptr id off ext) (.v (.int k z)) = (h.get id).bind (stI h id off ext (.v (.int k z))) := stX_int ts3
theorem tv4 : tview Try.prog 4 = some (.bool) := by kernel_rfl
theorem ts4 : tsize Try.prog 4 = 1 := by kernel_rfl
theorem pt4 : ∀ {xs : List AV} {off : Nat}, part Try.prog xs 4 off = xs[off]? := part_one (fun _ _ h => by rw [tv4] at h; cases h) (by rw [tv4]; trivial)
theorem st4 : ∀ {h : Heap} {id : Id} {off ext : Nat} {k : IntKind} {z : Int}, stX Try.prog 4 h (.ptr id off ext) (.v (.int k z)) = (h.get id).bind (stI h id off ext (.v (.int k z))) := stX_int ts4
theorem sb4 : ∀ {h : Heap} {id : Id} {off ext : Nat} {z : Bool}, stX Try.prog 4 h (.ptr id off ext) (.v (.bool z)) = (h.get id).bind (stI h id off ext (.v (.bool z))) := stX_bool ts4
theorem tv22 : tview Try.prog 22 = some (.slice 3 1 8) := by kernel_rfl
theorem ts22 : tsize Try.prog 22 = 1 := by kernel_rfl
theorem pt22 : ∀ {xs : List AV} {off : Nat}, part Try.prog xs 22 off = xs[off]? := part_one (fun _ _ h => by rw [tv22] at h; cases h) (by rw [tv22]; trivial)
theorem ia22 : ∀ {m : Nat} {xs : List AV} {i : Int} {g : Id → Option Blk}, 0 ≤ i → i < m → aindexAddr Try.prog 22 g (.arr m xs) i = some (.ref xs (i.toNat * 1)) := ia_any tv22
theorem io22 : ∀ {id : Id} {off m ext : Nat} {i : Int} {g : Id → Option Blk}, aindexAddr Try.prog 22 g (.own id off m ext) i = (g id).bind (iaB id off m ext 1 i) := ia_own tv22
theorem le22 : ∀ {x : AV}, abuiltin Try.prog .len #[22] [x] = (alen x).bind fun n => some (.v (.int .i64 n)) := len_at tv22
theorem tz3 : tzero Try.prog 3 = some [.v (.int .i64 0)] := by kernel_rfl
theorem mk22 : ∀ {a b : Int} {k k' : IntKind}, 0 ≤ a → a ≤ b → b ≤ 140737488355328 → b * 8 ≤ 140737488355328 → mkX Try.prog 22 (.v (.int k a)) (.v (.int k' b)) = some (.fresh 1 a.toNat (lm (ik .i64) (List.replicate a.toNat 0))) := mk_ik tv22 tz3
theorem ap22 : ∀ {lvl d : Nat} {h : Heap} {x y : AV}, appX Try.prog lvl d 22 22 h x y = (newsOf h.get y).bind (appN lvl d 1 8 h x (inner h.get y)) := appX_at tv22 tz3 rfl (by decide)
theorem bs22 : ∀ {len : Nat} {parts : List (Nat × AV)}, len * 1 ≤ 16777216 → abuildSlice Try.prog 22 len parts = (afill (elP 1) (List.replicate len [.v (.int .i64 0)]).flatten parts).bind (bslE 1 len) := fun h => bsl_at tv22 tz3 h rfl (by decide)
theorem ao22 : ∀ {off m ext : Nat} {id : Id} {lo hi : Option AV} {g : Id → Option Blk}, aslice Try.prog 22 g (.own id off m ext) lo hi = (g id).bind fun b => (sliceLim lo 0).bind fun l => (sliceLim hi m).bind fun r => slO id off ext 1 l r b := asl_own tv22
theorem as22 : ∀ {m : Nat} {xs : List AV} {lo hi : Option AV} {g : Id → Option Blk}, aslice Try.prog 22 g (.arr m xs) lo hi = (sliceLim lo 0).bind fun l => (sliceLim hi m).bind fun r => slA 1 m xs l r := asl_arr tv22
theorem st22 : ∀ {h : Heap} {id : Id} {off ext : Nat} {k : IntKind} {z : Int}, stX Try.prog 22 h (.ptr id off ext) (.v (.int k z)) = (h.get id).bind (stI h id off ext (.v (.int k z))) := stX_int ts22
theorem sa22 : ∀ {h : Heap} {id : Id} {off ext m : Nat} {xs : List AV}, stX Try.prog 22 h (.ptr id off ext) (.arr m xs) = (h.get id).bind (stI h id off ext (.arr m xs)) := stX_arr ts22
theorem so22 : ∀ {h : Heap} {id j : Id} {off ext o m x : Nat}, stX Try.prog 22 h (.ptr id off ext) (.own j o m x) = (h.get id).bind (stO h id off ext (.own j o m x)) := stX_own ts22
theorem tv25 : tview Try.prog 25 = some (.int .i64) := by kernel_rfl
theorem ts25 : tsize Try.prog 25 = 1 := by kernel_rfl
theorem pt25 : ∀ {xs : List AV} {off : Nat}, part Try.prog xs 25 off = xs[off]? := part_one (fun _ _ h => by rw [tv25] at h; cases h) (by rw [tv25]; trivial)
theorem st25 : ∀ {h : Heap} {id : Id} {off ext : Nat} {k : IntKind} {z : Int}, stX Try.prog 25 h (.ptr id off ext) (.v (.int k z)) = (h.get id).bind (stI h id off ext (.v (.int k z))) := stX_int ts25
theorem tv40 : tview Try.prog 40 = some (.slice 4 1 1) := by kernel_rfl
theorem ts40 : tsize Try.prog 40 = 1 := by kernel_rfl
theorem pt40 : ∀ {xs : List AV} {off : Nat}, part Try.prog xs 40 off = xs[off]? := part_one (fun _ _ h => by rw [tv40] at h; cases h) (by rw [tv40]; trivial)
theorem ia40 : ∀ {m : Nat} {xs : List AV} {i : Int} {g : Id → Option Blk}, 0 ≤ i → i < m → aindexAddr Try.prog 40 g (.arr m xs) i = some (.ref xs (i.toNat * 1)) := ia_any tv40
theorem io40 : ∀ {id : Id} {off m ext : Nat} {i : Int} {g : Id → Option Blk}, aindexAddr Try.prog 40 g (.own id off m ext) i = (g id).bind (iaB id off m ext 1 i) := ia_own tv40
theorem le40 : ∀ {x : AV}, abuiltin Try.prog .len #[40] [x] = (alen x).bind fun n => some (.v (.int .i64 n)) := len_at tv40
theorem tz4 : tzero Try.prog 4 = some [.v (.bool false)] := by kernel_rfl
theorem mk40 : ∀ {a b : Int} {k k' : IntKind}, 0 ≤ a → a ≤ b → b ≤ 140737488355328 → b * 1 ≤ 140737488355328 → mkX Try.prog 40 (.v (.int k a)) (.v (.int k' b)) = some (.fresh 1 a.toNat (lm bk (List.replicate a.toNat false))) := mk_bk tv40 tz4
theorem st40 : ∀ {h : Heap} {id : Id} {off ext : Nat} {k : IntKind} {z : Int}, stX Try.prog 40 h (.ptr id off ext) (.v (.int k z)) = (h.get id).bind (stI h id off ext (.v (.int k z))) := stX_int ts40
theorem sa40 : ∀ {h : Heap} {id : Id} {off ext m : Nat} {xs : List AV}, stX Try.prog 40 h (.ptr id off ext) (.arr m xs) = (h.get id).bind (stI h id off ext (.arr m xs)) := stX_arr ts40
theorem so40 : ∀ {h : Heap} {id j : Id} {off ext o m x : Nat}, stX Try.prog 40 h (.ptr id off ext) (.own j o m x) = (h.get id).bind (stO h id off ext (.own j o m x)) := stX_own ts40
theorem tv66 : tview Try.prog 66 = some (.slice 22 1 24) := by kernel_rfl
theorem ts66 : tsize Try.prog 66 = 1 := by kernel_rfl
theorem pt66 : ∀ {xs : List AV} {off : Nat}, part Try.prog xs 66 off = xs[off]? := part_one (fun _ _ h => by rw [tv66] at h; cases h) (by rw [tv66]; trivial)
theorem ia66 : ∀ {m : Nat} {xs : List AV} {i : Int} {g : Id → Option Blk}, 0 ≤ i → i < m → aindexAddr Try.prog 66 g (.arr m xs) i = some (.ref xs (i.toNat * 1)) := ia_any tv66
theorem io66 : ∀ {id : Id} {off m ext : Nat} {i : Int} {g : Id → Option Blk}, aindexAddr Try.prog 66 g (.own id off m ext) i = (g id).bind (iaB id off m ext 1 i) := ia_own tv66
theorem le66 : ∀ {x : AV}, abuiltin Try.prog .len #[66] [x] = (alen x).bind fun n => some (.v (.int .i64 n)) := len_at tv66
theorem tz22 : tzero Try.prog 22 = some [.v (.slice none 0 0)] := by kernel_rfl
theorem bs66 : ∀ {len : Nat} {parts : List (Nat × AV)}, len * 1 ≤ 16777216 → abuildSlice Try.prog 66 len parts = (afill (elP 1) (List.replicate len [.v (.slice none 0 0)]).flatten parts).bind (bslE 1 len) := fun h => bsl_at tv66 tz22 h rfl (by decide)
theorem st66 : ∀ {h : Heap} {id : Id} {off ext : Nat} {k : IntKind} {z : Int}, stX Try.prog 66 h (.ptr id off ext) (.v (.int k z)) = (h.get id).bind (stI h id off ext (.v (.int k z))) := stX_int ts66
theorem sa66 : ∀ {h : Heap} {id : Id} {off ext m : Nat} {xs : List AV}, stX Try.prog 66 h (.ptr id off ext) (.arr m xs) = (h.get id).bind (stI h id off ext (.arr m xs)) := stX_arr ts66
theorem so66 : ∀ {h : Heap} {id j : Id} {off ext o m x : Nat}, stX Try.prog 66 h (.ptr id off ext) (.own j o m x) = (h.get id).bind (stO h id off ext (.own j o m x)) := stX_own ts66
theorem sc22 : sliceCells Try.prog 4 22 = [2] := by kernel_rfl
theorem ty22 : typed Try.prog 22 (.v (.slice none 0 0)) = .fresh 1 0 [] := ty_nil sc22
theorem sc40 : sliceCells Try.prog 4 40 = [2] := by kernel_rfl
theorem ty40 : typed Try.prog 40 (.v (.slice none 0 0)) = .fresh 1 0 [] := ty_nil sc40
def TT0 := And.intro @ts3 <| And.intro @pt3 <| And.intro @st3 <| And.intro @ts4 <| And.intro @pt4 <| And.intro @sb4 <| And.intro @ts22 <| And.intro @pt22 <| And.intro @ia22 <| And.intro @io22 <| And.intro @le22 <| And.intro @mk22 <| And.intro @ap22 <| And.intro @bs22 <| And.intro @ao22 <| And.intro @as22 <| And.intro @sa22 <| And.intro @so22 <| And.intro @ts25 <| And.intro @pt25 <| And.intro @st25 <| And.intro @ts40 <| And.intro @pt40 <| And.intro @ia40 <| And.intro @io40 <| And.intro @le40 <| And.intro @mk40 <| And.intro @sa40 <| And.intro @so40 <| And.intro @ts66 <| And.intro @pt66 <| And.intro @ia66 <| And.intro @io66 <| And.intro @le66 <| And.intro @bs66 <| And.intro @sa66 <| And.intro @so66 <| And.intro @ty22 <| @ty40
def TT := @TT0
def OF := True.intro
def NT := True.intro
/-! 79: slices.IndexFunc[[]int,int] -/
def d79 : List (Nat × List Nat) := [(0, [4]), (0, [0, 1, 7, 8]), (0, [6]), (0, [5]), (0, []), (0, []), (0, [10]), (0, []), (0, [11, 12, 13, 14, 15]), (0, []), (0, [17]), (0, []), (0, [18]), (0, []), (0, [])]
def d79_at := And.intro (show d79.getD 0 (0, []) = (0, [4]) from rfl) <| And.intro (show d79.getD 1 (0, []) = (0, [0, 1, 7, 8]) from rfl) <| And.intro (show d79.getD 2 (0, []) = (0, [6]) from rfl) <| And.intro (show d79.getD 3 (0, []) = (0, [5]) from rfl) <| And.intro (show d79.getD 4 (0, []) = (0, []) from rfl) <| And.intro (show d79.getD 5 (0, []) = (0, []) from rfl) <| And.intro (show d79.getD 6 (0, []) = (0, [10]) from rfl) <| And.intro (show d79.getD 7 (0, []) = (0, []) from rfl) <| And.intro (show d79.getD 8 (0, []) = (0, [11, 12, 13, 14, 15]) from rfl) <| And.intro (show d79.getD 9 (0, []) = (0, []) from rfl) <| And.intro (show d79.getD 10 (0, []) = (0, [17]) from rfl) <| And.intro (show d79.getD 11 (0, []) = (0, []) from rfl) <| And.intro (show d79.getD 12 (0, []) = (0, [18]) from rfl) <| And.intro (show d79.getD 13 (0, []) = (0, []) from rfl) <| (show d79.getD 14 (0, []) = (0, []) from rfl)
theorem i79 : finfo Try.prog 79 d79 = some ⟨bodyOf Try.f79, [.tmp 4], [3]⟩ := finfo_at Try.func79 rfl (by kernel_rfl) (by kernel_rfl)
def e79 : Int → AV := fun r => .v (.int .i64 r)
set_option maxHeartbeats 1000000 in
theorem w79 (cp : CallP) (fu : Nat) (x1 : List Int) (p1 : Int → Option Bool) (fv_p1 : FuncId) (ca_p1 : List AV) (cap_p1 : Capt ca_p1) (hp_p1 : ∀ (y0 : Int) r, p1 y0 = some r → cp fv_p1 ((.v (.int .i64 y0)) :: ca_p1) = some (.v (.bool r))) : J (go Try.prog noC cp noI 0 [] d79 fu (fin Try.prog [.tmp 4] [3]) (bodyOf Try.f79) (initE 0 [.arr x1.length (lm (ik .i64) x1), .fn fv_p1 [] ca_p1]) [] []) (slices_IndexFunc_int fu x1 p1) e79 := by
  unfold slices_IndexFunc_int e79
  have c4_p1 := fun g => (cap_p1.1 g).1; have c3_p1 := fun g => (cap_p1.1 g).2.1; have b4_p1 := fun g => (cap_p1.1 g).2.2.1; have b3_p1 := fun g => (cap_p1.1 g).2.2.2; have nm_p1 := cap_p1.2
  conv => arg 1; simp (disch := first | assumption | decide | with_unfolding_all rfl | omega | (simp only [LN] <;> omega) | (simp only [RO, OF])) only [bodyOf, Try.f79, RR, RM, LN, TT, d79_at, ↓reduceIte, Nat.reduceEqDiff, Nat.reduceLT, Nat.reduceLeDiff, Nat.reduceAdd, Nat.reduceSub, Nat.reduceMul, Nat.reduceMod, Nat.reduceDiv, Nat.reduceBEq, c4_p1, c3_p1, b4_p1, b3_p1, nm_p1]
  refine J.eq go_seq ?_
  conv => arg 1; simp (disch := first | assumption | decide | with_unfolding_all rfl | omega | (simp only [LN] <;> omega) | (simp only [RO, OF])) only [RR, RM, LN, TT, d79_at, ↓reduceIte, Nat.reduceEqDiff, Nat.reduceLT, Nat.reduceLeDiff, Nat.reduceAdd, Nat.reduceSub, Nat.reduceMul, Nat.reduceMod, Nat.reduceDiv, Nat.reduceBEq, c4_p1, c3_p1, b4_p1, b3_p1, nm_p1]
  unfold slices_IndexFunc_int_W1
  refine J.loop (fun (s : Int) => ([(0, .arr x1.length (lm (ik .i64) x1)), (1, .fn fv_p1 [] ca_p1), (7, .v (.int .i64 (x1.length : Int))), (8, .v (.int .i64 s))], [])) (fun next s => slices_IndexFunc_int_L1 fu p1 x1 next s) (s0 := 0) ?_ ?_ ?_
  · first | rfl | (simp only [LN, NN, NT])
  · first | (simp (disch := first | assumption | decide | with_unfolding_all rfl | omega | (simp only [LN] <;> omega) | (simp only [RO, OF])) only [RR, ↓reduceIte, Nat.reduceEqDiff, Nat.reduceLT, Nat.reduceLeDiff, Nat.reduceAdd, Nat.reduceSub, Nat.reduceMul, Nat.reduceMod, Nat.reduceDiv, Nat.reduceBEq, LN, NN, NT]; done) | rfl
  rintro nx1 k1 hn1 x4
  show J _ (slices_IndexFunc_int_L1 fu p1 x1 nx1 x4) _
  unfold slices_IndexFunc_int_L1
  conv => arg 1; simp (disch := first | assumption | decide | with_unfolding_all rfl | omega | (simp only [LN] <;> omega) | (simp only [RO, OF])) only [RR, RM, LN, TT, d79_at, ↓reduceIte, Nat.reduceEqDiff, Nat.reduceLT, Nat.reduceLeDiff, Nat.reduceAdd, Nat.reduceSub, Nat.reduceMul, Nat.reduceMod, Nat.reduceDiv, Nat.reduceBEq, c4_p1, c3_p1, b4_p1, b3_p1, nm_p1]
  refine J.eq go_seq ?_
  conv => arg 1; simp (disch := first | assumption | decide | with_unfolding_all rfl | omega | (simp only [LN] <;> omega) | (simp only [RO, OF])) only [RR, RM, LN, TT, d79_at, ↓reduceIte, Nat.reduceEqDiff, Nat.reduceLT, Nat.reduceLeDiff, Nat.reduceAdd, Nat.reduceSub, Nat.reduceMul, Nat.reduceMod, Nat.reduceDiv, Nat.reduceBEq, c4_p1, c3_p1, b4_p1, b3_p1, nm_p1]
  refine J.ite (fun h1 => ?_) (fun h1 => ?_)
  · have h1' := decide_eq_true h1
    have h1'' : decide ((x1.length : Int) ≤ x4) = false := decide_eq_false (by omega)
    conv => arg 1; simp (disch := first | assumption | decide | with_unfolding_all rfl | omega | (simp only [LN] <;> omega) | (simp only [RO, OF])) only [RR, RM, LN, TT, d79_at, ↓reduceIte, Nat.reduceEqDiff, Nat.reduceLT, Nat.reduceLeDiff, Nat.reduceAdd, Nat.reduceSub, Nat.reduceMul, Nat.reduceMod, Nat.reduceDiv, Nat.reduceBEq, c4_p1, c3_p1, b4_p1, b3_p1, nm_p1, h1'', h1']
    refine J.eq ret_seq ?_
    refine J.eq go_seq ?_
    refine J.at fun x7 h2 h3 h4 => ?_
    refine J.bind fun x8 h5 => ?_
    have e_h5 := hp_p1 _ _ h5
    conv => arg 1; simp (disch := first | assumption | decide | with_unfolding_all rfl | omega | (simp only [LN] <;> omega) | (simp only [RO, OF])) only [RR, RM, LN, TT, d79_at, ↓reduceIte, Nat.reduceEqDiff, Nat.reduceLT, Nat.reduceLeDiff, Nat.reduceAdd, Nat.reduceSub, Nat.reduceMul, Nat.reduceMod, Nat.reduceDiv, Nat.reduceBEq, c4_p1, c3_p1, b4_p1, b3_p1, nm_p1, h1'', h1', lm_ik h4, e_h5]
    refine J.ite (fun h6 => ?_) (fun h6 => ?_)
    · have h6' : x8 = true := h6
      refine J.some ?_
      simp (disch := first | assumption | decide | with_unfolding_all rfl | omega | (simp only [LN] <;> omega) | (simp only [RO, OF])) only [RR, RM, LN, TT, d79_at, ↓reduceIte, Nat.reduceEqDiff, Nat.reduceLT, Nat.reduceLeDiff, Nat.reduceAdd, Nat.reduceSub, Nat.reduceMul, Nat.reduceMod, Nat.reduceDiv, Nat.reduceBEq, c4_p1, c3_p1, b4_p1, b3_p1, nm_p1, h1'', h1', lm_ik h4, e_h5, h6', FF, LN, NN, NT]
    · have h6' : x8 = false := Bool.eq_false_iff.2 h6
      conv => arg 1; simp (disch := first | assumption | decide | with_unfolding_all rfl | omega | (simp only [LN] <;> omega) | (simp only [RO, OF])) only [RR, RM, LN, TT, d79_at, ↓reduceIte, Nat.reduceEqDiff, Nat.reduceLT, Nat.reduceLeDiff, Nat.reduceAdd, Nat.reduceSub, Nat.reduceMul, Nat.reduceMod, Nat.reduceDiv, Nat.reduceBEq, c4_p1, c3_p1, b4_p1, b3_p1, nm_p1, h1'', h1', lm_ik h4, e_h5, h6']
      refine J.eq ret_seq ?_
      conv => arg 1; simp (disch := first | assumption | decide | with_unfolding_all rfl | omega | (simp only [LN] <;> omega) | (simp only [RO, OF])) only [RR, RM, LN, TT, d79_at, ↓reduceIte, Nat.reduceEqDiff, Nat.reduceLT, Nat.reduceLeDiff, Nat.reduceAdd, Nat.reduceSub, Nat.reduceMul, Nat.reduceMod, Nat.reduceDiv, Nat.reduceBEq, c4_p1, c3_p1, b4_p1, b3_p1, nm_p1, h1'', h1', lm_ik h4, e_h5, h6']
      refine J.next (s := wk .i64 (x4 + 1)) hn1 ?_ ?_
      · first | rfl | (simp only [LN, NN, NT])
      · first | (simp (disch := first | assumption | decide | with_unfolding_all rfl | omega | (simp only [LN] <;> omega) | (simp only [RO, OF])) only [RR, ↓reduceIte, Nat.reduceEqDiff, Nat.reduceLT, Nat.reduceLeDiff, Nat.reduceAdd, Nat.reduceSub, Nat.reduceMul, Nat.reduceMod, Nat.reduceDiv, Nat.reduceBEq, LN, NN, NT]; done) | rfl
  · have h1' := decide_eq_false h1
    have h1'' : decide ((x1.length : Int) ≤ x4) = true := decide_eq_true (by omega)
    conv => arg 1; simp (disch := first | assumption | decide | with_unfolding_all rfl | omega | (simp only [LN] <;> omega) | (simp only [RO, OF])) only [RR, RM, LN, TT, d79_at, ↓reduceIte, Nat.reduceEqDiff, Nat.reduceLT, Nat.reduceLeDiff, Nat.reduceAdd, Nat.reduceSub, Nat.reduceMul, Nat.reduceMod, Nat.reduceDiv, Nat.reduceBEq, c4_p1, c3_p1, b4_p1, b3_p1, nm_p1, h1'', h1']
    refine J.eq ret_seq ?_
    refine J.some ?_
    simp (disch := first | assumption | decide | with_unfolding_all rfl | omega | (simp only [LN] <;> omega) | (simp only [RO, OF])) only [RR, RM, LN, TT, d79_at, ↓reduceIte, Nat.reduceEqDiff, Nat.reduceLT, Nat.reduceLeDiff, Nat.reduceAdd, Nat.reduceSub, Nat.reduceMul, Nat.reduceMod, Nat.reduceDiv, Nat.reduceBEq, c4_p1, c3_p1, b4_p1, b3_p1, nm_p1, h1'', h1', FF, LN, NN, NT]
noncomputable def t79 (fu : Nat) (x1 : List Int) (p1 : Int → Option Bool) (fv_p1 : FuncId) (ca_p1 : List AV) : CallP := orE fv_p1 (mkC (fun (t : Int) => ((.v (.int .i64 t)) :: ca_p1 : List AV)) (fun t => p1 t) (fun r => .v (.bool r))) (noP)
theorem t79_ok (fu : Nat) (x1 : List Int) (p1 : Int → Option Bool) (fv_p1 : FuncId) (ca_p1 : List AV) (cap_p1 : Capt ca_p1) (hp_p1 : ∀ (y0 : Int) r, p1 y0 = some r → PureOK Try.prog fv_p1 ((.v (.int .i64 y0)) :: ca_p1) (.v (.bool r))) : CpOK Try.prog (t79 fu x1 p1 fv_p1 ca_p1) := orE_ok (noP_ok) (mkC_ok (fun t b h => hp_p1 t b h))
theorem ok79 (fu : Nat) (x1 : List Int) (p1 : Int → Option Bool) (fv_p1 : FuncId) (ca_p1 : List AV) (cap_p1 : Capt ca_p1) (hp_p1 : ∀ (y0 : Int) r, p1 y0 = some r → PureOK Try.prog fv_p1 ((.v (.int .i64 y0)) :: ca_p1) (.v (.bool r))) (r) (h : slices_IndexFunc_int fu x1 p1 = some r) : PureOK Try.prog 79 [.arr x1.length (lm (ik .i64) x1), .fn fv_p1 [] ca_p1] (e79 r) :=
  pure_J mixed (cp := t79 fu x1 p1 fv_p1 ca_p1) (t79_ok fu x1 p1 fv_p1 ca_p1 cap_p1 hp_p1) noI_ok i79 (w79 _ fu x1 p1 fv_p1 ca_p1 cap_p1 (fun y0 r h => orE_hit (mkC_at (a := y0) (by intro a b h; first | (exact rfl) | (simp only [INJ] at h; first | exact h | (simp_all [Prod.ext_iff]) )) h)) ) h
/-! 53: slices.ContainsFunc[[]int,int] -/
def d53 : List (Nat × List Nat) := [(0, [4]), (0, []), (0, [0, 1, 5, 6, 7, 8])]
def d53_at := And.intro (show d53.getD 0 (0, []) = (0, [4]) from rfl) <| And.intro (show d53.getD 1 (0, []) = (0, []) from rfl) <| (show d53.getD 2 (0, []) = (0, [0, 1, 5, 6, 7, 8]) from rfl)
theorem i53 : finfo Try.prog 53 d53 = some ⟨bodyOf Try.f53, [.tmp 4], [4]⟩ := finfo_at Try.func53 rfl (by kernel_rfl) (by kernel_rfl)
def e53 : Bool → AV := fun r => .v (.bool r)
set_option maxHeartbeats 1000000 in
theorem w53 (cp : CallP) (fu : Nat) (x1 : List Int) (p1 : Int → Option Bool) (fv_p1 : FuncId) (ca_p1 : List AV) (cap_p1 : Capt ca_p1) (hp_p1 : ∀ (y0 : Int) r, p1 y0 = some r → cp fv_p1 ((.v (.int .i64 y0)) :: ca_p1) = some (.v (.bool r))) (H79_0 : ∀ (a0 : List Int) r, slices_IndexFunc_int fu a0 p1 = some r → cp 79 [.arr a0.length (lm (ik .i64) a0), .fn fv_p1 [] ca_p1] = some (.v (.int .i64 r))) : J (go Try.prog noC cp noI 0 [] d53 fu (fin Try.prog [.tmp 4] [4]) (bodyOf Try.f53) (initE 0 [.arr x1.length (lm (ik .i64) x1), .fn fv_p1 [] ca_p1]) [] []) (slices_ContainsFunc_int fu x1 p1) e53 := by
  unfold slices_ContainsFunc_int e53
  have c4_p1 := fun g => (cap_p1.1 g).1; have c3_p1 := fun g => (cap_p1.1 g).2.1; have b4_p1 := fun g => (cap_p1.1 g).2.2.1; have b3_p1 := fun g => (cap_p1.1 g).2.2.2; have nm_p1 := cap_p1.2
  refine J.bind fun x2 h1 => ?_
  have e_h1 := H79_0 _ _ h1
  try simp only [NN, NT, LN] at e_h1
  refine J.some ?_
  simp (disch := first | assumption | decide | with_unfolding_all rfl | omega | (simp only [LN] <;> omega) | (simp only [RO, OF])) only [bodyOf, Try.f53, RR, RM, LN, TT, d53_at, ↓reduceIte, Nat.reduceEqDiff, Nat.reduceLT, Nat.reduceLeDiff, Nat.reduceAdd, Nat.reduceSub, Nat.reduceMul, Nat.reduceMod, Nat.reduceDiv, Nat.reduceBEq, c4_p1, c3_p1, b4_p1, b3_p1, nm_p1, e_h1, FF, LN, NN, NT]
noncomputable def t53 (fu : Nat) (x1 : List Int) (p1 : Int → Option Bool) (fv_p1 : FuncId) (ca_p1 : List AV) : CallP := orE 79 (mkC (fun (t : List Int) => ([.arr t.length (lm (ik .i64) t), .fn fv_p1 [] ca_p1] : List AV)) (fun t => slices_IndexFunc_int fu t p1) e79) (orE fv_p1 (mkC (fun (t : Int) => ((.v (.int .i64 t)) :: ca_p1 : List AV)) (fun t => p1 t) (fun r => .v (.bool r))) (noP))
theorem t53_ok (fu : Nat) (x1 : List Int) (p1 : Int → Option Bool) (fv_p1 : FuncId) (ca_p1 : List AV) (cap_p1 : Capt ca_p1) (hp_p1 : ∀ (y0 : Int) r, p1 y0 = some r → PureOK Try.prog fv_p1 ((.v (.int .i64 y0)) :: ca_p1) (.v (.bool r))) : CpOK Try.prog (t53 fu x1 p1 fv_p1 ca_p1) := orE_ok (orE_ok (noP_ok) (mkC_ok (fun t b h => hp_p1 t b h))) (mkC_ok (fun t b h => ok79 fu t p1 fv_p1 ca_p1 cap_p1 hp_p1 b h))
theorem ok53 (fu : Nat) (x1 : List Int) (p1 : Int → Option Bool) (fv_p1 : FuncId) (ca_p1 : List AV) (cap_p1 : Capt ca_p1) (hp_p1 : ∀ (y0 : Int) r, p1 y0 = some r → PureOK Try.prog fv_p1 ((.v (.int .i64 y0)) :: ca_p1) (.v (.bool r))) (r) (h : slices_ContainsFunc_int fu x1 p1 = some r) : PureOK Try.prog 53 [.arr x1.length (lm (ik .i64) x1), .fn fv_p1 [] ca_p1] (e53 r) :=
  pure_J mixed (cp := t53 fu x1 p1 fv_p1 ca_p1) (t53_ok fu x1 p1 fv_p1 ca_p1 cap_p1 hp_p1) noI_ok i53 (w53 _ fu x1 p1 fv_p1 ca_p1 cap_p1 (fun y0 r h => orE_skip (fun hfv => mkC_none (by intro t h; simp at h)) (orE_hit (mkC_at (a := y0) (by intro a b h; first | (exact rfl) | (simp only [INJ] at h; first | exact h | (simp_all [Prod.ext_iff]) )) h))) (fun a0 r h => orE_hit (mkC_at (a := a0) (by intro a b h; first | (exact rfl) | (simp only [INJ] at h; first | exact h | (simp_all [Prod.ext_iff]) )) h))) h
/-! 54: lattice/shape.Size$1 -/
def d54 : List (Nat × List Nat) := [(0, [2]), (0, []), (0, [0, 3, 4])]
def d54_at := And.intro (show d54.getD 0 (0, []) = (0, [2]) from rfl) <| And.intro (show d54.getD 1 (0, []) = (0, []) from rfl) <| (show d54.getD 2 (0, []) = (0, [0, 3, 4]) from rfl)
theorem i54 : finfo Try.prog 54 d54 = some ⟨bodyOf Try.f54, [.tmp 2], [4]⟩ := finfo_at Try.func54 rfl (by kernel_rfl) (by kernel_rfl)
def e54 : Bool → AV := fun r => .v (.bool r)
set_option maxHeartbeats 1000000 in
theorem w54 (cp : CallP) (fu : Nat) (x1 : Int) : J (go Try.prog noC cp noI 0 [] d54 fu (fin Try.prog [.tmp 2] [4]) (bodyOf Try.f54) (initE 0 [.v (.int .i64 x1)]) [] []) (shape_Size_1 fu x1) e54 := by
  unfold shape_Size_1 e54
  refine J.some ?_
  simp (disch := first | assumption | decide | with_unfolding_all rfl | omega | (simp only [LN] <;> omega) | (simp only [RO, OF])) only [bodyOf, Try.f54, RR, RM, LN, TT, d54_at, ↓reduceIte, Nat.reduceEqDiff, Nat.reduceLT, Nat.reduceLeDiff, Nat.reduceAdd, Nat.reduceSub, Nat.reduceMul, Nat.reduceMod, Nat.reduceDiv, Nat.reduceBEq, FF, LN, NN, NT]
noncomputable def t54 (fu : Nat) : CallP := noP
theorem t54_ok (fu : Nat) : CpOK Try.prog (t54 fu ) := noP_ok
theorem ok54 (fu : Nat) (x1 : Int) (r) (h : shape_Size_1 fu x1 = some r) : PureOK Try.prog 54 [.v (.int .i64 x1)] (e54 r) :=
  pure_J mixed (cp := t54 fu ) (t54_ok fu  ) noI_ok i54 (w54 _ fu x1  ) h
/-! 55: lattice/shape.Size$2 -/
def d55 : List (Nat × List Nat) := [(0, [2]), (0, []), (0, [0, 3, 4])]
def d55_at := And.intro (show d55.getD 0 (0, []) = (0, [2]) from rfl) <| And.intro (show d55.getD 1 (0, []) = (0, []) from rfl) <| (show d55.getD 2 (0, []) = (0, [0, 3, 4]) from rfl)
theorem i55 : finfo Try.prog 55 d55 = some ⟨bodyOf Try.f55, [.tmp 2], [4]⟩ := finfo_at Try.func55 rfl (by kernel_rfl) (by kernel_rfl)
def e55 : Bool → AV := fun r => .v (.bool r)
set_option maxHeartbeats 1000000 in
theorem w55 (cp : CallP) (fu : Nat) (x1 : Int) : J (go Try.prog noC cp noI 0 [] d55 fu (fin Try.prog [.tmp 2] [4]) (bodyOf Try.f55) (initE 0 [.v (.int .i64 x1)]) [] []) (shape_Size_2 fu x1) e55 := by
  unfold shape_Size_2 e55
  refine J.some ?_
  simp (disch := first | assumption | decide | with_unfolding_all rfl | omega | (simp only [LN] <;> omega) | (simp only [RO, OF])) only [bodyOf, Try.f55, RR, RM, LN, TT, d55_at, ↓reduceIte, Nat.reduceEqDiff, Nat.reduceLT, Nat.reduceLeDiff, Nat.reduceAdd, Nat.reduceSub, Nat.reduceMul, Nat.reduceMod, Nat.reduceDiv, Nat.reduceBEq, FF, LN, NN, NT]
noncomputable def t55 (fu : Nat) : CallP := noP
theorem t55_ok (fu : Nat) : CpOK Try.prog (t55 fu ) := noP_ok
theorem ok55 (fu : Nat) (x1 : Int) (r) (h : shape_Size_2 fu x1 = some r) : PureOK Try.prog 55 [.v (.int .i64 x1)] (e55 r) :=
  pure_J mixed (cp := t55 fu ) (t55_ok fu  ) noI_ok i55 (w55 _ fu x1  ) h
/-! 80: slices.Index[[]int,int] -/
def d80 : List (Nat × List Nat) := [(0, [4]), (0, [0, 1, 7, 8]), (0, [6]), (0, [5]), (0, []), (0, []), (0, [10]), (0, []), (0, [11, 12, 13, 14, 15]), (0, []), (0, [17]), (0, []), (0, [18]), (0, []), (0, [])]
def d80_at := And.intro (show d80.getD 0 (0, []) = (0, [4]) from rfl) <| And.intro (show d80.getD 1 (0, []) = (0, [0, 1, 7, 8]) from rfl) <| And.intro (show d80.getD 2 (0, []) = (0, [6]) from rfl) <| And.intro (show d80.getD 3 (0, []) = (0, [5]) from rfl) <| And.intro (show d80.getD 4 (0, []) = (0, []) from rfl) <| And.intro (show d80.getD 5 (0, []) = (0, []) from rfl) <| And.intro (show d80.getD 6 (0, []) = (0, [10]) from rfl) <| And.intro (show d80.getD 7 (0, []) = (0, []) from rfl) <| And.intro (show d80.getD 8 (0, []) = (0, [11, 12, 13, 14, 15]) from rfl) <| And.intro (show d80.getD 9 (0, []) = (0, []) from rfl) <| And.intro (show d80.getD 10 (0, []) = (0, [17]) from rfl) <| And.intro (show d80.getD 11 (0, []) = (0, []) from rfl) <| And.intro (show d80.getD 12 (0, []) = (0, [18]) from rfl) <| And.intro (show d80.getD 13 (0, []) = (0, []) from rfl) <| (show d80.getD 14 (0, []) = (0, []) from rfl)
theorem i80 : finfo Try.prog 80 d80 = some ⟨bodyOf Try.f80, [.tmp 4], [3]⟩ := finfo_at Try.func80 rfl (by kernel_rfl) (by kernel_rfl)
def e80 : Int → AV := fun r => .v (.int .i64 r)
set_option maxHeartbeats 1000000 in
theorem w80 (cp : CallP) (fu : Nat) (x1 : List Int) (x2 : Int) : J (go Try.prog noC cp noI 0 [] d80 fu (fin Try.prog [.tmp 4] [3]) (bodyOf Try.f80) (initE 0 [.arr x1.length (lm (ik .i64) x1), .v (.int .i64 x2)]) [] []) (slices_Index_int fu x1 x2) e80 := by
  unfold slices_Index_int e80
  conv => arg 1; simp (disch := first | assumption | decide | with_unfolding_all rfl | omega | (simp only [LN] <;> omega) | (simp only [RO, OF])) only [bodyOf, Try.f80, RR, RM, LN, TT, d80_at, ↓reduceIte, Nat.reduceEqDiff, Nat.reduceLT, Nat.reduceLeDiff, Nat.reduceAdd, Nat.reduceSub, Nat.reduceMul, Nat.reduceMod, Nat.reduceDiv, Nat.reduceBEq]
  refine J.eq go_seq ?_
  conv => arg 1; simp (disch := first | assumption | decide | with_unfolding_all rfl | omega | (simp only [LN] <;> omega) | (simp only [RO, OF])) only [RR, RM, LN, TT, d80_at, ↓reduceIte, Nat.reduceEqDiff, Nat.reduceLT, Nat.reduceLeDiff, Nat.reduceAdd, Nat.reduceSub, Nat.reduceMul, Nat.reduceMod, Nat.reduceDiv, Nat.reduceBEq]
  unfold slices_Index_int_W1
  refine J.loop (fun (s : Int) => ([(0, .arr x1.length (lm (ik .i64) x1)), (1, .v (.int .i64 x2)), (7, .v (.int .i64 (x1.length : Int))), (8, .v (.int .i64 s))], [])) (fun next s => slices_Index_int_L1 fu x1 x2 next s) (s0 := 0) ?_ ?_ ?_
  · first | rfl | (simp only [LN, NN, NT])
  · first | (simp (disch := first | assumption | decide | with_unfolding_all rfl | omega | (simp only [LN] <;> omega) | (simp only [RO, OF])) only [RR, ↓reduceIte, Nat.reduceEqDiff, Nat.reduceLT, Nat.reduceLeDiff, Nat.reduceAdd, Nat.reduceSub, Nat.reduceMul, Nat.reduceMod, Nat.reduceDiv, Nat.reduceBEq, LN, NN, NT]; done) | rfl
  rintro nx1 k1 hn1 x4
  show J _ (slices_Index_int_L1 fu x1 x2 nx1 x4) _
  unfold slices_Index_int_L1
  conv => arg 1; simp (disch := first | assumption | decide | with_unfolding_all rfl | omega | (simp only [LN] <;> omega) | (simp only [RO, OF])) only [RR, RM, LN, TT, d80_at, ↓reduceIte, Nat.reduceEqDiff, Nat.reduceLT, Nat.reduceLeDiff, Nat.reduceAdd, Nat.reduceSub, Nat.reduceMul, Nat.reduceMod, Nat.reduceDiv, Nat.reduceBEq]
  refine J.eq go_seq ?_
  conv => arg 1; simp (disch := first | assumption | decide | with_unfolding_all rfl | omega | (simp only [LN] <;> omega) | (simp only [RO, OF])) only [RR, RM, LN, TT, d80_at, ↓reduceIte, Nat.reduceEqDiff, Nat.reduceLT, Nat.reduceLeDiff, Nat.reduceAdd, Nat.reduceSub, Nat.reduceMul, Nat.reduceMod, Nat.reduceDiv, Nat.reduceBEq]
  refine J.ite (fun h1 => ?_) (fun h1 => ?_)
  · have h1' := decide_eq_true h1
    have h1'' : decide ((x1.length : Int) ≤ x4) = false := decide_eq_false (by omega)
    conv => arg 1; simp (disch := first | assumption | decide | with_unfolding_all rfl | omega | (simp only [LN] <;> omega) | (simp only [RO, OF])) only [RR, RM, LN, TT, d80_at, ↓reduceIte, Nat.reduceEqDiff, Nat.reduceLT, Nat.reduceLeDiff, Nat.reduceAdd, Nat.reduceSub, Nat.reduceMul, Nat.reduceMod, Nat.reduceDiv, Nat.reduceBEq, h1'', h1']
    refine J.eq ret_seq ?_
    refine J.eq go_seq ?_
    refine J.at fun x6 h2 h3 h4 => ?_
    conv => arg 1; simp (disch := first | assumption | decide | with_unfolding_all rfl | omega | (simp only [LN] <;> omega) | (simp only [RO, OF])) only [RR, RM, LN, TT, d80_at, ↓reduceIte, Nat.reduceEqDiff, Nat.reduceLT, Nat.reduceLeDiff, Nat.reduceAdd, Nat.reduceSub, Nat.reduceMul, Nat.reduceMod, Nat.reduceDiv, Nat.reduceBEq, h1'', h1', lm_ik h4]
    refine J.ite (fun h5 => ?_) (fun h5 => ?_)
    · have h5' := decide_eq_true h5
      refine J.some ?_
      simp (disch := first | assumption | decide | with_unfolding_all rfl | omega | (simp only [LN] <;> omega) | (simp only [RO, OF])) only [RR, RM, LN, TT, d80_at, ↓reduceIte, Nat.reduceEqDiff, Nat.reduceLT, Nat.reduceLeDiff, Nat.reduceAdd, Nat.reduceSub, Nat.reduceMul, Nat.reduceMod, Nat.reduceDiv, Nat.reduceBEq, h1'', h1', lm_ik h4, h5', FF, LN, NN, NT]
    · have h5' := decide_eq_false h5
      conv => arg 1; simp (disch := first | assumption | decide | with_unfolding_all rfl | omega | (simp only [LN] <;> omega) | (simp only [RO, OF])) only [RR, RM, LN, TT, d80_at, ↓reduceIte, Nat.reduceEqDiff, Nat.reduceLT, Nat.reduceLeDiff, Nat.reduceAdd, Nat.reduceSub, Nat.reduceMul, Nat.reduceMod, Nat.reduceDiv, Nat.reduceBEq, h1'', h1', lm_ik h4, h5']
      refine J.eq ret_seq ?_
      conv => arg 1; simp (disch := first | assumption | decide | with_unfolding_all rfl | omega | (simp only [LN] <;> omega) | (simp only [RO, OF])) only [RR, RM, LN, TT, d80_at, ↓reduceIte, Nat.reduceEqDiff, Nat.reduceLT, Nat.reduceLeDiff, Nat.reduceAdd, Nat.reduceSub, Nat.reduceMul, Nat.reduceMod, Nat.reduceDiv, Nat.reduceBEq, h1'', h1', lm_ik h4, h5']
      refine J.next (s := wk .i64 (x4 + 1)) hn1 ?_ ?_
      · first | rfl | (simp only [LN, NN, NT])
      · first | (simp (disch := first | assumption | decide | with_unfolding_all rfl | omega | (simp only [LN] <;> omega) | (simp only [RO, OF])) only [RR, ↓reduceIte, Nat.reduceEqDiff, Nat.reduceLT, Nat.reduceLeDiff, Nat.reduceAdd, Nat.reduceSub, Nat.reduceMul, Nat.reduceMod, Nat.reduceDiv, Nat.reduceBEq, LN, NN, NT]; done) | rfl
  · have h1' := decide_eq_false h1
    have h1'' : decide ((x1.length : Int) ≤ x4) = true := decide_eq_true (by omega)
    conv => arg 1; simp (disch := first | assumption | decide | with_unfolding_all rfl | omega | (simp only [LN] <;> omega) | (simp only [RO, OF])) only [RR, RM, LN, TT, d80_at, ↓reduceIte, Nat.reduceEqDiff, Nat.reduceLT, Nat.reduceLeDiff, Nat.reduceAdd, Nat.reduceSub, Nat.reduceMul, Nat.reduceMod, Nat.reduceDiv, Nat.reduceBEq, h1'', h1']
    refine J.eq ret_seq ?_
    refine J.some ?_
    simp (disch := first | assumption | decide | with_unfolding_all rfl | omega | (simp only [LN] <;> omega) | (simp only [RO, OF])) only [RR, RM, LN, TT, d80_at, ↓reduceIte, Nat.reduceEqDiff, Nat.reduceLT, Nat.reduceLeDiff, Nat.reduceAdd, Nat.reduceSub, Nat.reduceMul, Nat.reduceMod, Nat.reduceDiv, Nat.reduceBEq, h1'', h1', FF, LN, NN, NT]
noncomputable def t80 (fu : Nat) : CallP := noP
theorem t80_ok (fu : Nat) : CpOK Try.prog (t80 fu ) := noP_ok
theorem ok80 (fu : Nat) (x1 : List Int) (x2 : Int) (r) (h : slices_Index_int fu x1 x2 = some r) : PureOK Try.prog 80 [.arr x1.length (lm (ik .i64) x1), .v (.int .i64 x2)] (e80 r) :=
  pure_J mixed (cp := t80 fu ) (t80_ok fu  ) noI_ok i80 (w80 _ fu x1 x2  ) h
/-! 56: slices.Contains[[]int,int] -/
def d56 : List (Nat × List Nat) := [(0, [4]), (0, []), (0, [0, 1, 5, 6, 7, 8])]
def d56_at := And.intro (show d56.getD 0 (0, []) = (0, [4]) from rfl) <| And.intro (show d56.getD 1 (0, []) = (0, []) from rfl) <| (show d56.getD 2 (0, []) = (0, [0, 1, 5, 6, 7, 8]) from rfl)
theorem i56 : finfo Try.prog 56 d56 = some ⟨bodyOf Try.f56, [.tmp 4], [4]⟩ := finfo_at Try.func56 rfl (by kernel_rfl) (by kernel_rfl)
def e56 : Bool → AV := fun r => .v (.bool r)
set_option maxHeartbeats 1000000 in
theorem w56 (cp : CallP) (fu : Nat) (x1 : List Int) (x2 : Int) (H80_0 : ∀ (a0 : List Int) (a1 : Int) r, slices_Index_int fu a0 a1 = some r → cp 80 [.arr a0.length (lm (ik .i64) a0), .v (.int .i64 a1)] = some (.v (.int .i64 r))) : J (go Try.prog noC cp noI 0 [] d56 fu (fin Try.prog [.tmp 4] [4]) (bodyOf Try.f56) (initE 0 [.arr x1.length (lm (ik .i64) x1), .v (.int .i64 x2)]) [] []) (slices_Contains_int fu x1 x2) e56 := by
  unfold slices_Contains_int e56
  refine J.bind fun x3 h1 => ?_
  have e_h1 := H80_0 _ _ _ h1
  try simp only [NN, NT, LN] at e_h1
  refine J.some ?_
  simp (disch := first | assumption | decide | with_unfolding_all rfl | omega | (simp only [LN] <;> omega) | (simp only [RO, OF])) only [bodyOf, Try.f56, RR, RM, LN, TT, d56_at, ↓reduceIte, Nat.reduceEqDiff, Nat.reduceLT, Nat.reduceLeDiff, Nat.reduceAdd, Nat.reduceSub, Nat.reduceMul, Nat.reduceMod, Nat.reduceDiv, Nat.reduceBEq, e_h1, FF, LN, NN, NT]
noncomputable def t56 (fu : Nat) : CallP := orE 80 (mkC (fun (t : (List Int) × Int) => ([.arr t.1.length (lm (ik .i64) t.1), .v (.int .i64 t.2)] : List AV)) (fun t => slices_Index_int fu t.1 t.2) e80) (noP)
theorem t56_ok (fu : Nat) : CpOK Try.prog (t56 fu ) := orE_ok (noP_ok) (mkC_ok (fun t b h => ok80 fu t.1 t.2  b h))
theorem ok56 (fu : Nat) (x1 : List Int) (x2 : Int) (r) (h : slices_Contains_int fu x1 x2 = some r) : PureOK Try.prog 56 [.arr x1.length (lm (ik .i64) x1), .v (.int .i64 x2)] (e56 r) :=
  pure_J mixed (cp := t56 fu ) (t56_ok fu  ) noI_ok i56 (w56 _ fu x1 x2  (fun a0 a1 r h => orE_hit (mkC_at (a := (a0, a1)) (by intro a b h; first | (exact rfl) | (simp only [INJ] at h; first | exact h | (simp_all [Prod.ext_iff]) )) h))) h
/-! 15: lattice/shape.Size -/
def d15 : List (Nat × List Nat) := [(0, [2, 3]), (0, [18, 19, 20]), (0, [7]), (0, []), (0, []), (0, []), (0, [9, 10, 11, 12, 13, 14]), (0, []), (0, []), (0, []), (0, [16]), (0, []), (0, []), (0, []), (0, []), (0, []), (0, [0]), (0, []), (0, []), (0, []), (0, [22, 23]), (0, []), (0, [24, 25, 26]), (0, []), (0, []), (0, []), (0, [6, 28, 29, 30]), (0, []), (0, [31]), (0, []), (0, [4, 32])]
def d15_at := And.intro (show d15.getD 0 (0, []) = (0, [2, 3]) from rfl) <| And.intro (show d15.getD 1 (0, []) = (0, [18, 19, 20]) from rfl) <| And.intro (show d15.getD 2 (0, []) = (0, [7]) from rfl) <| And.intro (show d15.getD 3 (0, []) = (0, []) from rfl) <| And.intro (show d15.getD 4 (0, []) = (0, []) from rfl) <| And.intro (show d15.getD 5 (0, []) = (0, []) from rfl) <| And.intro (show d15.getD 6 (0, []) = (0, [9, 10, 11, 12, 13, 14]) from rfl) <| And.intro (show d15.getD 7 (0, []) = (0, []) from rfl) <| And.intro (show d15.getD 8 (0, []) = (0, []) from rfl) <| And.intro (show d15.getD 9 (0, []) = (0, []) from rfl) <| And.intro (show d15.getD 10 (0, []) = (0, [16]) from rfl) <| And.intro (show d15.getD 11 (0, []) = (0, []) from rfl) <| And.intro (show d15.getD 12 (0, []) = (0, []) from rfl) <| And.intro (show d15.getD 13 (0, []) = (0, []) from rfl) <| And.intro (show d15.getD 14 (0, []) = (0, []) from rfl) <| And.intro (show d15.getD 15 (0, []) = (0, []) from rfl) <| And.intro (show d15.getD 16 (0, []) = (0, [0]) from rfl) <| And.intro (show d15.getD 17 (0, []) = (0, []) from rfl) <| And.intro (show d15.getD 18 (0, []) = (0, []) from rfl) <| And.intro (show d15.getD 19 (0, []) = (0, []) from rfl) <| And.intro (show d15.getD 20 (0, []) = (0, [22, 23]) from rfl) <| And.intro (show d15.getD 21 (0, []) = (0, []) from rfl) <| And.intro (show d15.getD 22 (0, []) = (0, [24, 25, 26]) from rfl) <| And.intro (show d15.getD 23 (0, []) = (0, []) from rfl) <| And.intro (show d15.getD 24 (0, []) = (0, []) from rfl) <| And.intro (show d15.getD 25 (0, []) = (0, []) from rfl) <| And.intro (show d15.getD 26 (0, []) = (0, [6, 28, 29, 30]) from rfl) <| And.intro (show d15.getD 27 (0, []) = (0, []) from rfl) <| And.intro (show d15.getD 28 (0, []) = (0, [31]) from rfl) <| And.intro (show d15.getD 29 (0, []) = (0, []) from rfl) <| (show d15.getD 30 (0, []) = (0, [4, 32]) from rfl)
theorem i15 : finfo Try.prog 15 d15 = some ⟨bodyOf Try.f15, [.tmp 2, .tmp 3], [3, 25]⟩ := finfo_at Try.func15 rfl (by kernel_rfl) (by kernel_rfl)
def e15 : (Int × Int) → AV := fun r => .tuple [.v (.int .i64 r.1), .v (.int .i64 r.2)]
set_option maxHeartbeats 1000000 in
theorem w15 (cp : CallP) (fu : Nat) (x1 : List Int) (H53_0 : ∀ (a0 : List Int) r, slices_ContainsFunc_int fu a0 (fun y0 => shape_Size_1 fu y0) = some r → cp 53 [.arr a0.length (lm (ik .i64) a0), .fn 54 [] []] = some (.v (.bool r))) (H53_1 : ∀ (a0 : List Int) r, slices_ContainsFunc_int fu a0 (fun y0 => shape_Size_2 fu y0) = some r → cp 53 [.arr a0.length (lm (ik .i64) a0), .fn 55 [] []] = some (.v (.bool r))) (H56_0 : ∀ (a0 : List Int) (a1 : Int) r, slices_Contains_int fu a0 a1 = some r → cp 56 [.arr a0.length (lm (ik .i64) a0), .v (.int .i64 a1)] = some (.v (.bool r))) : J (go Try.prog noC cp noI 0 [] d15 fu (fin Try.prog [.tmp 2, .tmp 3] [3, 25]) (bodyOf Try.f15) (initE 0 [.arr x1.length (lm (ik .i64) x1)]) [] []) (shape_Size fu x1) e15 := by
  unfold shape_Size e15
  conv => arg 1; simp (disch := first | assumption | decide | with_unfolding_all rfl | omega | (simp only [LN] <;> omega) | (simp only [RO, OF])) only [bodyOf, Try.f15, RR, RM, LN, TT, d15_at, ↓reduceIte, Nat.reduceEqDiff, Nat.reduceLT, Nat.reduceLeDiff, Nat.reduceAdd, Nat.reduceSub, Nat.reduceMul, Nat.reduceMod, Nat.reduceDiv, Nat.reduceBEq]
  refine J.eq go_seq ?_
  refine J.bind fun x2 h1 => ?_
  have e_h1 := H53_0 _ _ h1
  try simp only [NN, NT, LN] at e_h1
  conv => arg 1; simp (disch := first | assumption | decide | with_unfolding_all rfl | omega | (simp only [LN] <;> omega) | (simp only [RO, OF])) only [RR, RM, LN, TT, d15_at, ↓reduceIte, Nat.reduceEqDiff, Nat.reduceLT, Nat.reduceLeDiff, Nat.reduceAdd, Nat.reduceSub, Nat.reduceMul, Nat.reduceMod, Nat.reduceDiv, Nat.reduceBEq, e_h1]
  refine J.ite (fun h2 => ?_) (fun h2 => ?_)
  · have h2' : x2 = true := h2
    refine J.some ?_
    simp (disch := first | assumption | decide | with_unfolding_all rfl | omega | (simp only [LN] <;> omega) | (simp only [RO, OF])) only [RR, RM, LN, TT, d15_at, ↓reduceIte, Nat.reduceEqDiff, Nat.reduceLT, Nat.reduceLeDiff, Nat.reduceAdd, Nat.reduceSub, Nat.reduceMul, Nat.reduceMod, Nat.reduceDiv, Nat.reduceBEq, e_h1, h2', FF, LN, NN, NT]
  · have h2' : x2 = false := Bool.eq_false_iff.2 h2
    conv => arg 1; simp (disch := first | assumption | decide | with_unfolding_all rfl | omega | (simp only [LN] <;> omega) | (simp only [RO, OF])) only [RR, RM, LN, TT, d15_at, ↓reduceIte, Nat.reduceEqDiff, Nat.reduceLT, Nat.reduceLeDiff, Nat.reduceAdd, Nat.reduceSub, Nat.reduceMul, Nat.reduceMod, Nat.reduceDiv, Nat.reduceBEq, e_h1, h2']
    refine J.eq ret_seq ?_
    refine J.joinS (fun (t : Unit) => ([(0, .arr x1.length (lm (ik .i64) x1))], [])) (fun t => shape_Size_k1 fu x1) ?_ (fun hj1 => ?_)
    · rintro ⟨⟩
      show J _ (shape_Size_k1 fu x1) _
      unfold shape_Size_k1
      refine J.eq go_seq ?_
      refine J.bind fun x3 h3 => ?_
      have e_h3 := H56_0 _ _ _ h3
      try simp only [NN, NT, LN] at e_h3
      conv => arg 1; simp (disch := first | assumption | decide | with_unfolding_all rfl | omega | (simp only [LN] <;> omega) | (simp only [RO, OF])) only [RR, RM, LN, TT, d15_at, ↓reduceIte, Nat.reduceEqDiff, Nat.reduceLT, Nat.reduceLeDiff, Nat.reduceAdd, Nat.reduceSub, Nat.reduceMul, Nat.reduceMod, Nat.reduceDiv, Nat.reduceBEq, e_h1, h2', e_h3]
      refine J.ite (fun h4 => ?_) (fun h4 => ?_)
      · have h4' : x3 = true := h4
        refine J.some ?_
        simp (disch := first | assumption | decide | with_unfolding_all rfl | omega | (simp only [LN] <;> omega) | (simp only [RO, OF])) only [RR, RM, LN, TT, d15_at, ↓reduceIte, Nat.reduceEqDiff, Nat.reduceLT, Nat.reduceLeDiff, Nat.reduceAdd, Nat.reduceSub, Nat.reduceMul, Nat.reduceMod, Nat.reduceDiv, Nat.reduceBEq, e_h1, h2', e_h3, h4', FF, LN, NN, NT]
      · have h4' : x3 = false := Bool.eq_false_iff.2 h4
        conv => arg 1; simp (disch := first | assumption | decide | with_unfolding_all rfl | omega | (simp only [LN] <;> omega) | (simp only [RO, OF])) only [RR, RM, LN, TT, d15_at, ↓reduceIte, Nat.reduceEqDiff, Nat.reduceLT, Nat.reduceLeDiff, Nat.reduceAdd, Nat.reduceSub, Nat.reduceMul, Nat.reduceMod, Nat.reduceDiv, Nat.reduceBEq, e_h1, h2', e_h3, h4']
        refine J.eq ret_seq ?_
        conv => arg 1; simp (disch := first | assumption | decide | with_unfolding_all rfl | omega | (simp only [LN] <;> omega) | (simp only [RO, OF])) only [RR, RM, LN, TT, d15_at, ↓reduceIte, Nat.reduceEqDiff, Nat.reduceLT, Nat.reduceLeDiff, Nat.reduceAdd, Nat.reduceSub, Nat.reduceMul, Nat.reduceMod, Nat.reduceDiv, Nat.reduceBEq, e_h1, h2', e_h3, h4']
        refine J.eq go_seq ?_
        conv => arg 1; simp (disch := first | assumption | decide | with_unfolding_all rfl | omega | (simp only [LN] <;> omega) | (simp only [RO, OF])) only [RR, RM, LN, TT, d15_at, ↓reduceIte, Nat.reduceEqDiff, Nat.reduceLT, Nat.reduceLeDiff, Nat.reduceAdd, Nat.reduceSub, Nat.reduceMul, Nat.reduceMod, Nat.reduceDiv, Nat.reduceBEq, e_h1, h2', e_h3, h4']
        unfold shape_Size_W1
        refine J.loop (fun (s : Int × Int) => ([(4, .v (.int .i64 s.1)), (18, .arr x1.length (lm (ik .i64) x1)), (19, .v (.int .i64 (x1.length : Int))), (20, .v (.int .i64 s.2))], [])) (fun next s => shape_Size_L1 fu x1 (fun x5 x6 => next (x5, x6)) s.1 s.2) (s0 := (1, 0)) ?_ ?_ ?_
        · first | rfl | (simp only [LN, NN, NT])
        · first | (simp (disch := first | assumption | decide | with_unfolding_all rfl | omega | (simp only [LN] <;> omega) | (simp only [RO, OF])) only [RR, ↓reduceIte, Nat.reduceEqDiff, Nat.reduceLT, Nat.reduceLeDiff, Nat.reduceAdd, Nat.reduceSub, Nat.reduceMul, Nat.reduceMod, Nat.reduceDiv, Nat.reduceBEq, LN, NN, NT]; done) | rfl
        rintro next k1 hn1 ⟨x5, x6⟩
        let nx1 : Int → Int → Option (Int × Int) := (fun x5 x6 => next (x5, x6))
        show J _ (shape_Size_L1 fu x1 nx1 x5 x6) _
        unfold shape_Size_L1
        conv => arg 1; simp (disch := first | assumption | decide | with_unfolding_all rfl | omega | (simp only [LN] <;> omega) | (simp only [RO, OF])) only [RR, RM, LN, TT, d15_at, ↓reduceIte, Nat.reduceEqDiff, Nat.reduceLT, Nat.reduceLeDiff, Nat.reduceAdd, Nat.reduceSub, Nat.reduceMul, Nat.reduceMod, Nat.reduceDiv, Nat.reduceBEq, e_h1, h2', e_h3, h4']
        refine J.eq go_seq ?_
        conv => arg 1; simp (disch := first | assumption | decide | with_unfolding_all rfl | omega | (simp only [LN] <;> omega) | (simp only [RO, OF])) only [RR, RM, LN, TT, d15_at, ↓reduceIte, Nat.reduceEqDiff, Nat.reduceLT, Nat.reduceLeDiff, Nat.reduceAdd, Nat.reduceSub, Nat.reduceMul, Nat.reduceMod, Nat.reduceDiv, Nat.reduceBEq, e_h1, h2', e_h3, h4']
        refine J.ite (fun h5 => ?_) (fun h5 => ?_)
        · have h5' := decide_eq_true h5
          have h5'' : decide ((x1.length : Int) ≤ x6) = false := decide_eq_false (by omega)
          conv => arg 1; simp (disch := first | assumption | decide | with_unfolding_all rfl | omega | (simp only [LN] <;> omega) | (simp only [RO, OF])) only [RR, RM, LN, TT, d15_at, ↓reduceIte, Nat.reduceEqDiff, Nat.reduceLT, Nat.reduceLeDiff, Nat.reduceAdd, Nat.reduceSub, Nat.reduceMul, Nat.reduceMod, Nat.reduceDiv, Nat.reduceBEq, e_h1, h2', e_h3, h4', h5'', h5']
          refine J.eq ret_seq ?_
          refine J.eq go_seq ?_
          refine J.at fun x8 h6 h7 h8 => ?_
          conv => arg 1; simp (disch := first | assumption | decide | with_unfolding_all rfl | omega | (simp only [LN] <;> omega) | (simp only [RO, OF])) only [RR, RM, LN, TT, d15_at, ↓reduceIte, Nat.reduceEqDiff, Nat.reduceLT, Nat.reduceLeDiff, Nat.reduceAdd, Nat.reduceSub, Nat.reduceMul, Nat.reduceMod, Nat.reduceDiv, Nat.reduceBEq, e_h1, h2', e_h3, h4', h5'', h5', lm_ik h8]
          refine J.eq go_seq ?_
          refine J.chk fun h9 => ?_
          conv => arg 1; simp (disch := first | assumption | decide | with_unfolding_all rfl | omega | (simp only [LN] <;> omega) | (simp only [RO, OF])) only [RR, RM, LN, TT, d15_at, ↓reduceIte, Nat.reduceEqDiff, Nat.reduceLT, Nat.reduceLeDiff, Nat.reduceAdd, Nat.reduceSub, Nat.reduceMul, Nat.reduceMod, Nat.reduceDiv, Nat.reduceBEq, e_h1, h2', e_h3, h4', h5'', h5', lm_ik h8]
          refine J.ite (fun h10 => ?_) (fun h10 => ?_)
          · have h10' := decide_eq_true h10
            have h10'' : decide (x8 ≤ (wk .i64 (Int.tdiv 4096 x5))) = false := decide_eq_false (by omega)
            refine J.some ?_
            simp (disch := first | assumption | decide | with_unfolding_all rfl | omega | (simp only [LN] <;> omega) | (simp only [RO, OF])) only [RR, RM, LN, TT, d15_at, ↓reduceIte, Nat.reduceEqDiff, Nat.reduceLT, Nat.reduceLeDiff, Nat.reduceAdd, Nat.reduceSub, Nat.reduceMul, Nat.reduceMod, Nat.reduceDiv, Nat.reduceBEq, e_h1, h2', e_h3, h4', h5'', h5', lm_ik h8, h10'', h10', FF, LN, NN, NT]
          · have h10' := decide_eq_false h10
            have h10'' : decide (x8 ≤ (wk .i64 (Int.tdiv 4096 x5))) = true := decide_eq_true (by omega)
            conv => arg 1; simp (disch := first | assumption | decide | with_unfolding_all rfl | omega | (simp only [LN] <;> omega) | (simp only [RO, OF])) only [RR, RM, LN, TT, d15_at, ↓reduceIte, Nat.reduceEqDiff, Nat.reduceLT, Nat.reduceLeDiff, Nat.reduceAdd, Nat.reduceSub, Nat.reduceMul, Nat.reduceMod, Nat.reduceDiv, Nat.reduceBEq, e_h1, h2', e_h3, h4', h5'', h5', lm_ik h8, h10'', h10']
            refine J.eq ret_seq ?_
            conv => arg 1; simp (disch := first | assumption | decide | with_unfolding_all rfl | omega | (simp only [LN] <;> omega) | (simp only [RO, OF])) only [RR, RM, LN, TT, d15_at, ↓reduceIte, Nat.reduceEqDiff, Nat.reduceLT, Nat.reduceLeDiff, Nat.reduceAdd, Nat.reduceSub, Nat.reduceMul, Nat.reduceMod, Nat.reduceDiv, Nat.reduceBEq, e_h1, h2', e_h3, h4', h5'', h5', lm_ik h8, h10'', h10']
            refine J.eq ret_seq ?_
            conv => arg 1; simp (disch := first | assumption | decide | with_unfolding_all rfl | omega | (simp only [LN] <;> omega) | (simp only [RO, OF])) only [RR, RM, LN, TT, d15_at, ↓reduceIte, Nat.reduceEqDiff, Nat.reduceLT, Nat.reduceLeDiff, Nat.reduceAdd, Nat.reduceSub, Nat.reduceMul, Nat.reduceMod, Nat.reduceDiv, Nat.reduceBEq, e_h1, h2', e_h3, h4', h5'', h5', lm_ik h8, h10'', h10']
            refine J.next (s := (wk .i64 (x5 * x8), wk .i64 (x6 + 1))) hn1 ?_ ?_
            · first | rfl | (simp only [LN, NN, NT])
            · first | (simp (disch := first | assumption | decide | with_unfolding_all rfl | omega | (simp only [LN] <;> omega) | (simp only [RO, OF])) only [RR, ↓reduceIte, Nat.reduceEqDiff, Nat.reduceLT, Nat.reduceLeDiff, Nat.reduceAdd, Nat.reduceSub, Nat.reduceMul, Nat.reduceMod, Nat.reduceDiv, Nat.reduceBEq, LN, NN, NT]; done) | rfl
        · have h5' := decide_eq_false h5
          have h5'' : decide ((x1.length : Int) ≤ x6) = true := decide_eq_true (by omega)
          conv => arg 1; simp (disch := first | assumption | decide | with_unfolding_all rfl | omega | (simp only [LN] <;> omega) | (simp only [RO, OF])) only [RR, RM, LN, TT, d15_at, ↓reduceIte, Nat.reduceEqDiff, Nat.reduceLT, Nat.reduceLeDiff, Nat.reduceAdd, Nat.reduceSub, Nat.reduceMul, Nat.reduceMod, Nat.reduceDiv, Nat.reduceBEq, e_h1, h2', e_h3, h4', h5'', h5']
          refine J.eq ret_seq ?_
          refine J.some ?_
          simp (disch := first | assumption | decide | with_unfolding_all rfl | omega | (simp only [LN] <;> omega) | (simp only [RO, OF])) only [RR, RM, LN, TT, d15_at, ↓reduceIte, Nat.reduceEqDiff, Nat.reduceLT, Nat.reduceLeDiff, Nat.reduceAdd, Nat.reduceSub, Nat.reduceMul, Nat.reduceMod, Nat.reduceDiv, Nat.reduceBEq, e_h1, h2', e_h3, h4', h5'', h5', FF, LN, NN, NT]
    · refine J.eq go_seq ?_
      conv => arg 1; simp (disch := first | assumption | decide | with_unfolding_all rfl | omega | (simp only [LN] <;> omega) | (simp only [RO, OF])) only [RR, RM, LN, TT, d15_at, ↓reduceIte, Nat.reduceEqDiff, Nat.reduceLT, Nat.reduceLeDiff, Nat.reduceAdd, Nat.reduceSub, Nat.reduceMul, Nat.reduceMod, Nat.reduceDiv, Nat.reduceBEq, e_h1, h2']
      refine J.ite (fun h11 => ?_) (fun h11 => ?_)
      · have h11' := decide_eq_true h11
        have h11'' : decide ((x1.length : Int) ≤ 8) = false := decide_eq_false (by omega)
        conv => arg 1; simp (disch := first | assumption | decide | with_unfolding_all rfl | omega | (simp only [LN] <;> omega) | (simp only [RO, OF])) only [RR, RM, LN, TT, d15_at, ↓reduceIte, Nat.reduceEqDiff, Nat.reduceLT, Nat.reduceLeDiff, Nat.reduceAdd, Nat.reduceSub, Nat.reduceMul, Nat.reduceMod, Nat.reduceDiv, Nat.reduceBEq, e_h1, h2', h11'', h11']
        refine J.eq ret_seq ?_
        refine J.some ?_
        simp (disch := first | assumption | decide | with_unfolding_all rfl | omega | (simp only [LN] <;> omega) | (simp only [RO, OF])) only [RR, RM, LN, TT, d15_at, ↓reduceIte, Nat.reduceEqDiff, Nat.reduceLT, Nat.reduceLeDiff, Nat.reduceAdd, Nat.reduceSub, Nat.reduceMul, Nat.reduceMod, Nat.reduceDiv, Nat.reduceBEq, e_h1, h2', h11'', h11', FF, LN, NN, NT]
      · have h11' := decide_eq_false h11
        have h11'' : decide ((x1.length : Int) ≤ 8) = true := decide_eq_true (by omega)
        refine J.bind fun x9 h12 => ?_
        have e_h12 := H53_1 _ _ h12
        try simp only [NN, NT, LN] at e_h12
        conv => arg 1; simp (disch := first | assumption | decide | with_unfolding_all rfl | omega | (simp only [LN] <;> omega) | (simp only [RO, OF])) only [RR, RM, LN, TT, d15_at, ↓reduceIte, Nat.reduceEqDiff, Nat.reduceLT, Nat.reduceLeDiff, Nat.reduceAdd, Nat.reduceSub, Nat.reduceMul, Nat.reduceMod, Nat.reduceDiv, Nat.reduceBEq, e_h1, h2', h11'', h11', e_h12]
        refine J.eq ret_seq ?_
        conv => arg 1; simp (disch := first | assumption | decide | with_unfolding_all rfl | omega | (simp only [LN] <;> omega) | (simp only [RO, OF])) only [RR, RM, LN, TT, d15_at, ↓reduceIte, Nat.reduceEqDiff, Nat.reduceLT, Nat.reduceLeDiff, Nat.reduceAdd, Nat.reduceSub, Nat.reduceMul, Nat.reduceMod, Nat.reduceDiv, Nat.reduceBEq, e_h1, h2', h11'', h11', e_h12]
        refine J.ite (fun h13 => ?_) (fun h13 => ?_)
        · have h13' : x9 = true := h13
          refine J.some ?_
          simp (disch := first | assumption | decide | with_unfolding_all rfl | omega | (simp only [LN] <;> omega) | (simp only [RO, OF])) only [RR, RM, LN, TT, d15_at, ↓reduceIte, Nat.reduceEqDiff, Nat.reduceLT, Nat.reduceLeDiff, Nat.reduceAdd, Nat.reduceSub, Nat.reduceMul, Nat.reduceMod, Nat.reduceDiv, Nat.reduceBEq, e_h1, h2', h11'', h11', e_h12, h13', FF, LN, NN, NT]
        · have h13' : x9 = false := Bool.eq_false_iff.2 h13
          conv => arg 1; simp (disch := first | assumption | decide | with_unfolding_all rfl | omega | (simp only [LN] <;> omega) | (simp only [RO, OF])) only [RR, RM, LN, TT, d15_at, ↓reduceIte, Nat.reduceEqDiff, Nat.reduceLT, Nat.reduceLeDiff, Nat.reduceAdd, Nat.reduceSub, Nat.reduceMul, Nat.reduceMod, Nat.reduceDiv, Nat.reduceBEq, e_h1, h2', h11'', h11', e_h12, h13']
          refine J.jmp (t := ()) hj1 ?_ ?_
          · first | rfl | (simp only [LN, NN, NT])
          · first | (simp (disch := first | assumption | decide | with_unfolding_all rfl | omega | (simp only [LN] <;> omega) | (simp only [RO, OF])) only [RR, ↓reduceIte, Nat.reduceEqDiff, Nat.reduceLT, Nat.reduceLeDiff, Nat.reduceAdd, Nat.reduceSub, Nat.reduceMul, Nat.reduceMod, Nat.reduceDiv, Nat.reduceBEq, LN, NN, NT]; done) | rfl
noncomputable def t15 (fu : Nat) : CallP := orE 53 (mkC (fun (t : List Int) => ([.arr t.length (lm (ik .i64) t), .fn 54 [] []] : List AV)) (fun t => slices_ContainsFunc_int fu t (fun y0 => shape_Size_1 fu y0)) e53) (orE 53 (mkC (fun (t : List Int) => ([.arr t.length (lm (ik .i64) t), .fn 55 [] []] : List AV)) (fun t => slices_ContainsFunc_int fu t (fun y0 => shape_Size_2 fu y0)) e53) (orE 56 (mkC (fun (t : (List Int) × Int) => ([.arr t.1.length (lm (ik .i64) t.1), .v (.int .i64 t.2)] : List AV)) (fun t => slices_Contains_int fu t.1 t.2) e56) (noP)))
theorem t15_ok (fu : Nat) : CpOK Try.prog (t15 fu ) := orE_ok (orE_ok (orE_ok (noP_ok) (mkC_ok (fun t b h => ok56 fu t.1 t.2  b h))) (mkC_ok (fun t b h => ok53 fu t (fun y0 => shape_Size_2 fu y0) 55 [] Capt.nil (fun y0 r h => ok55 fu y0  r h) b h))) (mkC_ok (fun t b h => ok53 fu t (fun y0 => shape_Size_1 fu y0) 54 [] Capt.nil (fun y0 r h => ok54 fu y0  r h) b h))
theorem ok15 (fu : Nat) (x1 : List Int) (r) (h : shape_Size fu x1 = some r) : PureOK Try.prog 15 [.arr x1.length (lm (ik .i64) x1)] (e15 r) :=
  pure_J mixed (cp := t15 fu ) (t15_ok fu  ) noI_ok i15 (w15 _ fu x1  (fun a0 r h => orE_hit (mkC_at (a := a0) (by intro a b h; first | (exact rfl) | (simp only [INJ] at h; first | exact h | (simp_all [Prod.ext_iff]) )) h)) (fun a0 r h => orE_next (mkC_none (by intro t h; simp at h)) (orE_hit (mkC_at (a := a0) (by intro a b h; first | (exact rfl) | (simp only [INJ] at h; first | exact h | (simp_all [Prod.ext_iff]) )) h))) (fun a0 a1 r h => orE_miss (by decide) (orE_miss (by decide) (orE_hit (mkC_at (a := (a0, a1)) (by intro a b h; first | (exact rfl) | (simp only [INJ] at h; first | exact h | (simp_all [Prod.ext_iff]) )) h))))) h
/-! 57: lattice/shape.strides -/
def d57 : List (Nat × List Nat) := [(0, [2]), (0, [0, 4, 5]), (0, [6, 7, 8]), (0, []), (0, []), (0, []), (0, [9, 10, 11]), (0, []), (0, [12]), (0, []), (0, [14, 15]), (0, []), (0, [16, 17, 18, 19]), (0, []), (0, [20, 21, 22, 23, 24, 25]), (0, []), (0, [3, 26])]
def d57_at := And.intro (show d57.getD 0 (0, []) = (0, [2]) from rfl) <| And.intro (show d57.getD 1 (0, []) = (0, [0, 4, 5]) from rfl) <| And.intro (show d57.getD 2 (0, []) = (0, [6, 7, 8]) from rfl) <| And.intro (show d57.getD 3 (0, []) = (0, []) from rfl) <| And.intro (show d57.getD 4 (0, []) = (0, []) from rfl) <| And.intro (show d57.getD 5 (0, []) = (0, []) from rfl) <| And.intro (show d57.getD 6 (0, []) = (0, [9, 10, 11]) from rfl) <| And.intro (show d57.getD 7 (0, []) = (0, []) from rfl) <| And.intro (show d57.getD 8 (0, []) = (0, [12]) from rfl) <| And.intro (show d57.getD 9 (0, []) = (0, []) from rfl) <| And.intro (show d57.getD 10 (0, []) = (0, [14, 15]) from rfl) <| And.intro (show d57.getD 11 (0, []) = (0, []) from rfl) <| And.intro (show d57.getD 12 (0, []) = (0, [16, 17, 18, 19]) from rfl) <| And.intro (show d57.getD 13 (0, []) = (0, []) from rfl) <| And.intro (show d57.getD 14 (0, []) = (0, [20, 21, 22, 23, 24, 25]) from rfl) <| And.intro (show d57.getD 15 (0, []) = (0, []) from rfl) <| (show d57.getD 16 (0, []) = (0, [3, 26]) from rfl)
theorem i57 : finfo Try.prog 57 d57 = some ⟨bodyOf Try.f57, [.tmp 2], [22]⟩ := finfo_at Try.func57 rfl (by kernel_rfl) (by kernel_rfl)
def e57 : (List Int) → AV := fun r => .fresh 1 r.length (lm (ik .i64) r)
set_option maxHeartbeats 1000000 in
theorem w57 (cp : CallP) (fu : Nat) (x1 : List Int) : J (go Try.prog noC cp noI 0 [] d57 fu (fin Try.prog [.tmp 2] [22]) (bodyOf Try.f57) (initE 0 [.arr x1.length (lm (ik .i64) x1)]) [] []) (shape_strides fu x1) e57 := by
  unfold shape_strides e57
  refine J.chk fun h1 => ?_
  conv => arg 1; simp (disch := first | assumption | decide | with_unfolding_all rfl | omega | (simp only [LN] <;> omega) | (simp only [RO, OF])) only [bodyOf, Try.f57, RR, RM, LN, TT, d57_at, ↓reduceIte, Nat.reduceEqDiff, Nat.reduceLT, Nat.reduceLeDiff, Nat.reduceAdd, Nat.reduceSub, Nat.reduceMul, Nat.reduceMod, Nat.reduceDiv, Nat.reduceBEq]
  refine J.eq go_seq ?_
  conv => arg 1; simp (disch := first | assumption | decide | with_unfolding_all rfl | omega | (simp only [LN] <;> omega) | (simp only [RO, OF])) only [RR, RM, LN, TT, d57_at, ↓reduceIte, Nat.reduceEqDiff, Nat.reduceLT, Nat.reduceLeDiff, Nat.reduceAdd, Nat.reduceSub, Nat.reduceMul, Nat.reduceMod, Nat.reduceDiv, Nat.reduceBEq]
  unfold shape_strides_W1
  refine J.loop (fun (s : (List Int) × Int × Int) => ([(0, .arr x1.length (lm (ik .i64) x1)), (3, .own (0, 8, 0) 0 s.1.length s.1.length), (4, .v (.int .i64 s.2.1)), (5, .v (.int .i64 s.2.2))], [((0, 8, 0), .sl true true 1 s.1.length (lm (ik .i64) s.1))])) (fun next s => shape_strides_L1 fu x1 (fun x3 x4 x5 => next (x3, x4, x5)) s.1 s.2.1 s.2.2) (s0 := (List.replicate (x1.length : Int).toNat (0 : Int), 1, wk .i64 ((x1.length : Int) - 1))) ?_ ?_ ?_
  · first | rfl | (simp only [LN, NN, NT])
  · first | (simp (disch := first | assumption | decide | with_unfolding_all rfl | omega | (simp only [LN] <;> omega) | (simp only [RO, OF])) only [RR, ↓reduceIte, Nat.reduceEqDiff, Nat.reduceLT, Nat.reduceLeDiff, Nat.reduceAdd, Nat.reduceSub, Nat.reduceMul, Nat.reduceMod, Nat.reduceDiv, Nat.reduceBEq, LN, NN, NT]; done) | rfl
  rintro next k1 hn1 ⟨x3, x4, x5⟩
  let nx1 : (List Int) → Int → Int → Option (List Int) := (fun x3 x4 x5 => next (x3, x4, x5))
  show J _ (shape_strides_L1 fu x1 nx1 x3 x4 x5) _
  unfold shape_strides_L1
  refine J.eq go_seq ?_
  conv => arg 1; simp (disch := first | assumption | decide | with_unfolding_all rfl | omega | (simp only [LN] <;> omega) | (simp only [RO, OF])) only [RR, RM, LN, TT, d57_at, ↓reduceIte, Nat.reduceEqDiff, Nat.reduceLT, Nat.reduceLeDiff, Nat.reduceAdd, Nat.reduceSub, Nat.reduceMul, Nat.reduceMod, Nat.reduceDiv, Nat.reduceBEq]
  refine J.ite (fun h2 => ?_) (fun h2 => ?_)
  · have h2' := decide_eq_true h2
    have h2'' : decide (x5 < 0) = false := decide_eq_false (by omega)
    conv => arg 1; simp (disch := first | assumption | decide | with_unfolding_all rfl | omega | (simp only [LN] <;> omega) | (simp only [RO, OF])) only [RR, RM, LN, TT, d57_at, ↓reduceIte, Nat.reduceEqDiff, Nat.reduceLT, Nat.reduceLeDiff, Nat.reduceAdd, Nat.reduceSub, Nat.reduceMul, Nat.reduceMod, Nat.reduceDiv, Nat.reduceBEq, h2'', h2']
    refine J.eq ret_seq ?_
    refine J.eq go_seq ?_
    refine J.chk fun h3 => ?_
    refine J.at fun x7 h4 h5 h6 => ?_
    conv => arg 1; simp (disch := first | assumption | decide | with_unfolding_all rfl | omega | (simp only [LN] <;> omega) | (simp only [RO, OF])) only [RR, RM, LN, TT, d57_at, ↓reduceIte, Nat.reduceEqDiff, Nat.reduceLT, Nat.reduceLeDiff, Nat.reduceAdd, Nat.reduceSub, Nat.reduceMul, Nat.reduceMod, Nat.reduceDiv, Nat.reduceBEq, h2'', h2', lm_ik h6]
    refine J.eq ret_seq ?_
    conv => arg 1; simp (disch := first | assumption | decide | with_unfolding_all rfl | omega | (simp only [LN] <;> omega) | (simp only [RO, OF])) only [RR, RM, LN, TT, d57_at, ↓reduceIte, Nat.reduceEqDiff, Nat.reduceLT, Nat.reduceLeDiff, Nat.reduceAdd, Nat.reduceSub, Nat.reduceMul, Nat.reduceMod, Nat.reduceDiv, Nat.reduceBEq, h2'', h2', lm_ik h6]
    refine J.next (s := (x3.set x5.toNat x4, wk .i64 (x4 * x7), wk .i64 (x5 - 1))) hn1 ?_ ?_
    · first | rfl | (simp only [LN, NN, NT])
    · first | (simp (disch := first | assumption | decide | with_unfolding_all rfl | omega | (simp only [LN] <;> omega) | (simp only [RO, OF])) only [RR, ↓reduceIte, Nat.reduceEqDiff, Nat.reduceLT, Nat.reduceLeDiff, Nat.reduceAdd, Nat.reduceSub, Nat.reduceMul, Nat.reduceMod, Nat.reduceDiv, Nat.reduceBEq, LN, NN, NT]; done) | rfl
  · have h2' := decide_eq_false h2
    have h2'' : decide (x5 < 0) = true := decide_eq_true (by omega)
    conv => arg 1; simp (disch := first | assumption | decide | with_unfolding_all rfl | omega | (simp only [LN] <;> omega) | (simp only [RO, OF])) only [RR, RM, LN, TT, d57_at, ↓reduceIte, Nat.reduceEqDiff, Nat.reduceLT, Nat.reduceLeDiff, Nat.reduceAdd, Nat.reduceSub, Nat.reduceMul, Nat.reduceMod, Nat.reduceDiv, Nat.reduceBEq, h2'', h2']
    refine J.eq ret_seq ?_
    refine J.some ?_
    simp (disch := first | assumption | decide | with_unfolding_all rfl | omega | (simp only [LN] <;> omega) | (simp only [RO, OF])) only [RR, RM, LN, TT, d57_at, ↓reduceIte, Nat.reduceEqDiff, Nat.reduceLT, Nat.reduceLeDiff, Nat.reduceAdd, Nat.reduceSub, Nat.reduceMul, Nat.reduceMod, Nat.reduceDiv, Nat.reduceBEq, h2'', h2', FF, LN, NN, NT]
noncomputable def t57 (fu : Nat) : CallP := noP
theorem t57_ok (fu : Nat) : CpOK Try.prog (t57 fu ) := noP_ok
theorem ok57 (fu : Nat) (x1 : List Int) (r) (h : shape_strides fu x1 = some r) : PureOK Try.prog 57 [.arr x1.length (lm (ik .i64) x1)] (e57 r) :=
  pure_J mixed (cp := t57 fu ) (t57_ok fu  ) noI_ok i57 (w57 _ fu x1  ) h
/-! 17: lattice/shape.Strides -/
def d17 : List (Nat × List Nat) := [(0, [2, 3]), (0, []), (0, [4, 6, 7, 8, 9, 10]), (0, []), (0, [11]), (0, []), (0, [13]), (0, []), (0, [0, 5, 14, 15])]
def d17_at := And.intro (show d17.getD 0 (0, []) = (0, [2, 3]) from rfl) <| And.intro (show d17.getD 1 (0, []) = (0, []) from rfl) <| And.intro (show d17.getD 2 (0, []) = (0, [4, 6, 7, 8, 9, 10]) from rfl) <| And.intro (show d17.getD 3 (0, []) = (0, []) from rfl) <| And.intro (show d17.getD 4 (0, []) = (0, [11]) from rfl) <| And.intro (show d17.getD 5 (0, []) = (0, []) from rfl) <| And.intro (show d17.getD 6 (0, []) = (0, [13]) from rfl) <| And.intro (show d17.getD 7 (0, []) = (0, []) from rfl) <| (show d17.getD 8 (0, []) = (0, [0, 5, 14, 15]) from rfl)
theorem i17 : finfo Try.prog 17 d17 = some ⟨bodyOf Try.f17, [.tmp 2, .tmp 3], [22, 25]⟩ := finfo_at Try.func17 rfl (by kernel_rfl) (by kernel_rfl)
def e17 : ((List Int) × Int) → AV := fun r => .tuple [.fresh 1 r.1.length (lm (ik .i64) r.1), .v (.int .i64 r.2)]
set_option maxHeartbeats 1000000 in
theorem w17 (cp : CallP) (fu : Nat) (x1 : List Int) (H15_0 : ∀ (a0 : List Int) r, shape_Size fu a0 = some r → cp 15 [.arr a0.length (lm (ik .i64) a0)] = some (.tuple [.v (.int .i64 r.1), .v (.int .i64 r.2)])) (H57_0 : ∀ (a0 : List Int) r, shape_strides fu a0 = some r → cp 57 [.arr a0.length (lm (ik .i64) a0)] = some (.fresh 1 r.length (lm (ik .i64) r))) : J (go Try.prog noC cp noI 0 [] d17 fu (fin Try.prog [.tmp 2, .tmp 3] [22, 25]) (bodyOf Try.f17) (initE 0 [.arr x1.length (lm (ik .i64) x1)]) [] []) (shape_Strides fu x1) e17 := by
  unfold shape_Strides e17
  conv => arg 1; simp (disch := first | assumption | decide | with_unfolding_all rfl | omega | (simp only [LN] <;> omega) | (simp only [RO, OF])) only [bodyOf, Try.f17, RR, RM, LN, TT, d17_at, ↓reduceIte, Nat.reduceEqDiff, Nat.reduceLT, Nat.reduceLeDiff, Nat.reduceAdd, Nat.reduceSub, Nat.reduceMul, Nat.reduceMod, Nat.reduceDiv, Nat.reduceBEq]
  refine J.eq go_seq ?_
  refine J.bind fun x2 h1 => ?_
  have e_h1 := H15_0 _ _ h1
  try simp only [NN, NT, LN] at e_h1
  conv => arg 1; simp (disch := first | assumption | decide | with_unfolding_all rfl | omega | (simp only [LN] <;> omega) | (simp only [RO, OF])) only [RR, RM, LN, TT, d17_at, ↓reduceIte, Nat.reduceEqDiff, Nat.reduceLT, Nat.reduceLeDiff, Nat.reduceAdd, Nat.reduceSub, Nat.reduceMul, Nat.reduceMod, Nat.reduceDiv, Nat.reduceBEq, e_h1]
  refine J.ite (fun h2 => ?_) (fun h2 => ?_)
  · have h2' := decide_eq_true h2
    conv => arg 1; simp (disch := first | assumption | decide | with_unfolding_all rfl | omega | (simp only [LN] <;> omega) | (simp only [RO, OF])) only [RR, RM, LN, TT, d17_at, ↓reduceIte, Nat.reduceEqDiff, Nat.reduceLT, Nat.reduceLeDiff, Nat.reduceAdd, Nat.reduceSub, Nat.reduceMul, Nat.reduceMod, Nat.reduceDiv, Nat.reduceBEq, e_h1, h2']
    refine J.eq ret_seq ?_
    refine J.bind fun x3 h3 => ?_
    have e_h3 := H57_0 _ _ h3
    try simp only [NN, NT, LN] at e_h3
    refine J.some ?_
    simp (disch := first | assumption | decide | with_unfolding_all rfl | omega | (simp only [LN] <;> omega) | (simp only [RO, OF])) only [RR, RM, LN, TT, d17_at, ↓reduceIte, Nat.reduceEqDiff, Nat.reduceLT, Nat.reduceLeDiff, Nat.reduceAdd, Nat.reduceSub, Nat.reduceMul, Nat.reduceMod, Nat.reduceDiv, Nat.reduceBEq, e_h1, h2', e_h3, FF, LN, NN, NT]
  · have h2' := decide_eq_false h2
    refine J.some ?_
    simp (disch := first | assumption | decide | with_unfolding_all rfl | omega | (simp only [LN] <;> omega) | (simp only [RO, OF])) only [RR, RM, LN, TT, d17_at, ↓reduceIte, Nat.reduceEqDiff, Nat.reduceLT, Nat.reduceLeDiff, Nat.reduceAdd, Nat.reduceSub, Nat.reduceMul, Nat.reduceMod, Nat.reduceDiv, Nat.reduceBEq, e_h1, h2', FF, LN, NN, NT]
noncomputable def t17 (fu : Nat) : CallP := orE 15 (mkC (fun (t : List Int) => ([.arr t.length (lm (ik .i64) t)] : List AV)) (fun t => shape_Size fu t) e15) (orE 57 (mkC (fun (t : List Int) => ([.arr t.length (lm (ik .i64) t)] : List AV)) (fun t => shape_strides fu t) e57) (noP))
theorem t17_ok (fu : Nat) : CpOK Try.prog (t17 fu ) := orE_ok (orE_ok (noP_ok) (mkC_ok (fun t b h => ok57 fu t  b h))) (mkC_ok (fun t b h => ok15 fu t  b h))
theorem ok17 (fu : Nat) (x1 : List Int) (r) (h : shape_Strides fu x1 = some r) : PureOK Try.prog 17 [.arr x1.length (lm (ik .i64) x1)] (e17 r) :=
  pure_J mixed (cp := t17 fu ) (t17_ok fu  ) noI_ok i17 (w17 _ fu x1  (fun a0 r h => orE_hit (mkC_at (a := a0) (by intro a b h; first | (exact rfl) | (simp only [INJ] at h; first | exact h | (simp_all [Prod.ext_iff]) )) h)) (fun a0 r h => orE_miss (by decide) (orE_hit (mkC_at (a := a0) (by intro a b h; first | (exact rfl) | (simp only [INJ] at h; first | exact h | (simp_all [Prod.ext_iff]) )) h)))) h
/-! 19: lattice/shape.Index -/
def d19 : List (Nat × List Nat) := [(0, [4, 5]), (0, [1, 30, 31, 32]), (0, [11, 12, 13, 14, 15]), (0, []), (0, [16]), (0, []), (0, [18]), (0, []), (0, [6, 7, 19, 20, 21, 22, 23, 24]), (0, []), (0, []), (0, []), (0, [26, 27, 28]), (0, []), (0, [0, 29]), (0, []), (0, []), (0, []), (0, [34, 35, 36]), (0, []), (0, [9, 37, 38, 39, 40, 41, 42]), (0, []), (0, [10, 43, 44, 45]), (0, []), (0, [46]), (0, []), (0, [8, 47])]
def d19_at := And.intro (show d19.getD 0 (0, []) = (0, [4, 5]) from rfl) <| And.intro (show d19.getD 1 (0, []) = (0, [1, 30, 31, 32]) from rfl) <| And.intro (show d19.getD 2 (0, []) = (0, [11, 12, 13, 14, 15]) from rfl) <| And.intro (show d19.getD 3 (0, []) = (0, []) from rfl) <| And.intro (show d19.getD 4 (0, []) = (0, [16]) from rfl) <| And.intro (show d19.getD 5 (0, []) = (0, []) from rfl) <| And.intro (show d19.getD 6 (0, []) = (0, [18]) from rfl) <| And.intro (show d19.getD 7 (0, []) = (0, []) from rfl) <| And.intro (show d19.getD 8 (0, []) = (0, [6, 7, 19, 20, 21, 22, 23, 24]) from rfl) <| And.intro (show d19.getD 9 (0, []) = (0, []) from rfl) <| And.intro (show d19.getD 10 (0, []) = (0, []) from rfl) <| And.intro (show d19.getD 11 (0, []) = (0, []) from rfl) <| And.intro (show d19.getD 12 (0, []) = (0, [26, 27, 28]) from rfl) <| And.intro (show d19.getD 13 (0, []) = (0, []) from rfl) <| And.intro (show d19.getD 14 (0, []) = (0, [0, 29]) from rfl) <| And.intro (show d19.getD 15 (0, []) = (0, []) from rfl) <| And.intro (show d19.getD 16 (0, []) = (0, []) from rfl) <| And.intro (show d19.getD 17 (0, []) = (0, []) from rfl) <| And.intro (show d19.getD 18 (0, []) = (0, [34, 35, 36]) from rfl) <| And.intro (show d19.getD 19 (0, []) = (0, []) from rfl) <| And.intro (show d19.getD 20 (0, []) = (0, [9, 37, 38, 39, 40, 41, 42]) from rfl) <| And.intro (show d19.getD 21 (0, []) = (0, []) from rfl) <| And.intro (show d19.getD 22 (0, []) = (0, [10, 43, 44, 45]) from rfl) <| And.intro (show d19.getD 23 (0, []) = (0, []) from rfl) <| And.intro (show d19.getD 24 (0, []) = (0, [46]) from rfl) <| And.intro (show d19.getD 25 (0, []) = (0, []) from rfl) <| (show d19.getD 26 (0, []) = (0, [8, 47]) from rfl)
theorem i19 : finfo Try.prog 19 d19 = some ⟨bodyOf Try.f19, [.tmp 4, .tmp 5], [22, 25]⟩ := finfo_at Try.func19 rfl (by kernel_rfl) (by kernel_rfl)
def e19 : ((List Int) × Int) → AV := fun r => .tuple [.fresh 1 r.1.length (lm (ik .i64) r.1), .v (.int .i64 r.2)]
set_option maxHeartbeats 1000000 in
theorem w19 (cp : CallP) (fu : Nat) (x1 : List Int) (x2 : Int) (H15_0 : ∀ (a0 : List Int) r, shape_Size fu a0 = some r → cp 15 [.arr a0.length (lm (ik .i64) a0)] = some (.tuple [.v (.int .i64 r.1), .v (.int .i64 r.2)])) (H57_0 : ∀ (a0 : List Int) r, shape_strides fu a0 = some r → cp 57 [.arr a0.length (lm (ik .i64) a0)] = some (.fresh 1 r.length (lm (ik .i64) r))) : J (go Try.prog noC cp noI 0 [] d19 fu (fin Try.prog [.tmp 4, .tmp 5] [22, 25]) (bodyOf Try.f19) (initE 0 [.arr x1.length (lm (ik .i64) x1), .v (.int .i64 x2)]) [] []) (shape_Index fu x1 x2) e19 := by
  unfold shape_Index e19
  refine J.bind fun x3 h1 => ?_
  have e_h1 := H15_0 _ _ h1
  try simp only [NN, NT, LN] at e_h1
  conv => arg 1; simp (disch := first | assumption | decide | with_unfolding_all rfl | omega | (simp only [LN] <;> omega) | (simp only [RO, OF])) only [bodyOf, Try.f19, RR, RM, LN, TT, d19_at, ↓reduceIte, Nat.reduceEqDiff, Nat.reduceLT, Nat.reduceLeDiff, Nat.reduceAdd, Nat.reduceSub, Nat.reduceMul, Nat.reduceMod, Nat.reduceDiv, Nat.reduceBEq, e_h1]
  refine J.eq go_seq ?_
  conv => arg 1; simp (disch := first | assumption | decide | with_unfolding_all rfl | omega | (simp only [LN] <;> omega) | (simp only [RO, OF])) only [RR, RM, LN, TT, d19_at, ↓reduceIte, Nat.reduceEqDiff, Nat.reduceLT, Nat.reduceLeDiff, Nat.reduceAdd, Nat.reduceSub, Nat.reduceMul, Nat.reduceMod, Nat.reduceDiv, Nat.reduceBEq, e_h1]
  refine J.ite (fun h2 => ?_) (fun h2 => ?_)
  · have h2' := decide_eq_true h2
    conv => arg 1; simp (disch := first | assumption | decide | with_unfolding_all rfl | omega | (simp only [LN] <;> omega) | (simp only [RO, OF])) only [RR, RM, LN, TT, d19_at, ↓reduceIte, Nat.reduceEqDiff, Nat.reduceLT, Nat.reduceLeDiff, Nat.reduceAdd, Nat.reduceSub, Nat.reduceMul, Nat.reduceMod, Nat.reduceDiv, Nat.reduceBEq, e_h1, h2']
    refine J.eq ret_seq ?_
    refine J.joinS (fun (t : Unit) => ([(0, .arr x1.length (lm (ik .i64) x1)), (1, .v (.int .i64 x2))], [])) (fun t => shape_Index_k1 fu x1 x2) ?_ (fun hj1 => ?_)
    · rintro ⟨⟩
      show J _ (shape_Index_k1 fu x1 x2) _
      unfold shape_Index_k1
      refine J.chk fun h3 => ?_
      conv => arg 1; simp (disch := first | assumption | decide | with_unfolding_all rfl | omega | (simp only [LN] <;> omega) | (simp only [RO, OF])) only [RR, RM, LN, TT, d19_at, ↓reduceIte, Nat.reduceEqDiff, Nat.reduceLT, Nat.reduceLeDiff, Nat.reduceAdd, Nat.reduceSub, Nat.reduceMul, Nat.reduceMod, Nat.reduceDiv, Nat.reduceBEq, e_h1, h2']
      refine J.eq go_seq ?_
      refine J.bind fun x4 h4 => ?_
      have e_h4 := H57_0 _ _ h4
      try simp only [NN, NT, LN] at e_h4
      conv => arg 1; simp (disch := first | assumption | decide | with_unfolding_all rfl | omega | (simp only [LN] <;> omega) | (simp only [RO, OF])) only [RR, RM, LN, TT, d19_at, ↓reduceIte, Nat.reduceEqDiff, Nat.reduceLT, Nat.reduceLeDiff, Nat.reduceAdd, Nat.reduceSub, Nat.reduceMul, Nat.reduceMod, Nat.reduceDiv, Nat.reduceBEq, e_h1, h2', e_h4]
      unfold shape_Index_W1
      refine J.loop (fun (s : (List Int) × Int × Int) => ([(1, .v (.int .i64 s.2.1)), (8, .own (0, 28, 0) 0 s.1.length s.1.length), (30, .own (0, 30, 0) 0 x4.length x4.length), (31, .v (.int .i64 (x4.length : Int))), (32, .v (.int .i64 s.2.2))], [((0, 28, 0), .sl true true 1 s.1.length (lm (ik .i64) s.1)), ((0, 30, 0), .sl true true 1 x4.length (lm (ik .i64) x4))])) (fun next s => shape_Index_L1 fu x4 (fun x6 x7 x8 => next (x6, x7, x8)) s.1 s.2.1 s.2.2) (s0 := (List.replicate (x1.length : Int).toNat (0 : Int), x2, 0)) ?_ ?_ ?_
      · first | rfl | (simp only [LN, NN, NT])
      · first | (simp (disch := first | assumption | decide | with_unfolding_all rfl | omega | (simp only [LN] <;> omega) | (simp only [RO, OF])) only [RR, ↓reduceIte, Nat.reduceEqDiff, Nat.reduceLT, Nat.reduceLeDiff, Nat.reduceAdd, Nat.reduceSub, Nat.reduceMul, Nat.reduceMod, Nat.reduceDiv, Nat.reduceBEq, LN, NN, NT]; done) | rfl
      rintro next k1 hn1 ⟨x6, x7, x8⟩
      let nx1 : (List Int) → Int → Int → Option ((List Int) × Int) := (fun x6 x7 x8 => next (x6, x7, x8))
      show J _ (shape_Index_L1 fu x4 nx1 x6 x7 x8) _
      unfold shape_Index_L1
      conv => arg 1; simp (disch := first | assumption | decide | with_unfolding_all rfl | omega | (simp only [LN] <;> omega) | (simp only [RO, OF])) only [RR, RM, LN, TT, d19_at, ↓reduceIte, Nat.reduceEqDiff, Nat.reduceLT, Nat.reduceLeDiff, Nat.reduceAdd, Nat.reduceSub, Nat.reduceMul, Nat.reduceMod, Nat.reduceDiv, Nat.reduceBEq, e_h1, h2', e_h4]
      refine J.eq go_seq ?_
      conv => arg 1; simp (disch := first | assumption | decide | with_unfolding_all rfl | omega | (simp only [LN] <;> omega) | (simp only [RO, OF])) only [RR, RM, LN, TT, d19_at, ↓reduceIte, Nat.reduceEqDiff, Nat.reduceLT, Nat.reduceLeDiff, Nat.reduceAdd, Nat.reduceSub, Nat.reduceMul, Nat.reduceMod, Nat.reduceDiv, Nat.reduceBEq, e_h1, h2', e_h4]
      refine J.ite (fun h5 => ?_) (fun h5 => ?_)
      · have h5' := decide_eq_true h5
        have h5'' : decide ((x4.length : Int) ≤ x8) = false := decide_eq_false (by omega)
        conv => arg 1; simp (disch := first | assumption | decide | with_unfolding_all rfl | omega | (simp only [LN] <;> omega) | (simp only [RO, OF])) only [RR, RM, LN, TT, d19_at, ↓reduceIte, Nat.reduceEqDiff, Nat.reduceLT, Nat.reduceLeDiff, Nat.reduceAdd, Nat.reduceSub, Nat.reduceMul, Nat.reduceMod, Nat.reduceDiv, Nat.reduceBEq, e_h1, h2', e_h4, h5'', h5']
        refine J.eq ret_seq ?_
        refine J.eq go_seq ?_
        refine J.at fun x10 h6 h7 h8 => ?_
        refine J.chk fun h9 => ?_
        refine J.chk fun h10 => ?_
        conv => arg 1; simp (disch := first | assumption | decide | with_unfolding_all rfl | omega | (simp only [LN] <;> omega) | (simp only [RO, OF])) only [RR, RM, LN, TT, d19_at, ↓reduceIte, Nat.reduceEqDiff, Nat.reduceLT, Nat.reduceLeDiff, Nat.reduceAdd, Nat.reduceSub, Nat.reduceMul, Nat.reduceMod, Nat.reduceDiv, Nat.reduceBEq, e_h1, h2', e_h4, h5'', h5', lm_ik h8]
        refine J.eq ret_seq ?_
        conv => arg 1; simp (disch := first | assumption | decide | with_unfolding_all rfl | omega | (simp only [LN] <;> omega) | (simp only [RO, OF])) only [RR, RM, LN, TT, d19_at, ↓reduceIte, Nat.reduceEqDiff, Nat.reduceLT, Nat.reduceLeDiff, Nat.reduceAdd, Nat.reduceSub, Nat.reduceMul, Nat.reduceMod, Nat.reduceDiv, Nat.reduceBEq, e_h1, h2', e_h4, h5'', h5', lm_ik h8]
        refine J.next (s := (x6.set x8.toNat (wk .i64 (Int.tdiv x7 x10)), Int.tmod x7 x10, wk .i64 (x8 + 1))) hn1 ?_ ?_
        · first | rfl | (simp only [LN, NN, NT])
        · first | (simp (disch := first | assumption | decide | with_unfolding_all rfl | omega | (simp only [LN] <;> omega) | (simp only [RO, OF])) only [RR, ↓reduceIte, Nat.reduceEqDiff, Nat.reduceLT, Nat.reduceLeDiff, Nat.reduceAdd, Nat.reduceSub, Nat.reduceMul, Nat.reduceMod, Nat.reduceDiv, Nat.reduceBEq, LN, NN, NT]; done) | rfl
      · have h5' := decide_eq_false h5
        have h5'' : decide ((x4.length : Int) ≤ x8) = true := decide_eq_true (by omega)
        conv => arg 1; simp (disch := first | assumption | decide | with_unfolding_all rfl | omega | (simp only [LN] <;> omega) | (simp only [RO, OF])) only [RR, RM, LN, TT, d19_at, ↓reduceIte, Nat.reduceEqDiff, Nat.reduceLT, Nat.reduceLeDiff, Nat.reduceAdd, Nat.reduceSub, Nat.reduceMul, Nat.reduceMod, Nat.reduceDiv, Nat.reduceBEq, e_h1, h2', e_h4, h5'', h5']
        refine J.eq ret_seq ?_
        refine J.some ?_
        simp (disch := first | assumption | decide | with_unfolding_all rfl | omega | (simp only [LN] <;> omega) | (simp only [RO, OF])) only [RR, RM, LN, TT, d19_at, ↓reduceIte, Nat.reduceEqDiff, Nat.reduceLT, Nat.reduceLeDiff, Nat.reduceAdd, Nat.reduceSub, Nat.reduceMul, Nat.reduceMod, Nat.reduceDiv, Nat.reduceBEq, e_h1, h2', e_h4, h5'', h5', FF, LN, NN, NT]
    · refine J.eq go_seq ?_
      conv => arg 1; simp (disch := first | assumption | decide | with_unfolding_all rfl | omega | (simp only [LN] <;> omega) | (simp only [RO, OF])) only [RR, RM, LN, TT, d19_at, ↓reduceIte, Nat.reduceEqDiff, Nat.reduceLT, Nat.reduceLeDiff, Nat.reduceAdd, Nat.reduceSub, Nat.reduceMul, Nat.reduceMod, Nat.reduceDiv, Nat.reduceBEq, e_h1, h2']
      refine J.ite (fun h11 => ?_) (fun h11 => ?_)
      · have h11' := decide_eq_true h11
        have h11'' : decide (0 ≤ x2) = false := decide_eq_false (by omega)
        conv => arg 1; simp (disch := first | assumption | decide | with_unfolding_all rfl | omega | (simp only [LN] <;> omega) | (simp only [RO, OF])) only [RR, RM, LN, TT, d19_at, ↓reduceIte, Nat.reduceEqDiff, Nat.reduceLT, Nat.reduceLeDiff, Nat.reduceAdd, Nat.reduceSub, Nat.reduceMul, Nat.reduceMod, Nat.reduceDiv, Nat.reduceBEq, e_h1, h2', h11'', h11']
        refine J.eq ret_seq ?_
        refine J.some ?_
        simp (disch := first | assumption | decide | with_unfolding_all rfl | omega | (simp only [LN] <;> omega) | (simp only [RO, OF])) only [RR, RM, LN, TT, d19_at, ↓reduceIte, Nat.reduceEqDiff, Nat.reduceLT, Nat.reduceLeDiff, Nat.reduceAdd, Nat.reduceSub, Nat.reduceMul, Nat.reduceMod, Nat.reduceDiv, Nat.reduceBEq, e_h1, h2', h11'', h11', FF, LN, NN, NT]
      · have h11' := decide_eq_false h11
        have h11'' : decide (0 ≤ x2) = true := decide_eq_true (by omega)
        conv => arg 1; simp (disch := first | assumption | decide | with_unfolding_all rfl | omega | (simp only [LN] <;> omega) | (simp only [RO, OF])) only [RR, RM, LN, TT, d19_at, ↓reduceIte, Nat.reduceEqDiff, Nat.reduceLT, Nat.reduceLeDiff, Nat.reduceAdd, Nat.reduceSub, Nat.reduceMul, Nat.reduceMod, Nat.reduceDiv, Nat.reduceBEq, e_h1, h2', h11'', h11']
        refine J.eq ret_seq ?_
        conv => arg 1; simp (disch := first | assumption | decide | with_unfolding_all rfl | omega | (simp only [LN] <;> omega) | (simp only [RO, OF])) only [RR, RM, LN, TT, d19_at, ↓reduceIte, Nat.reduceEqDiff, Nat.reduceLT, Nat.reduceLeDiff, Nat.reduceAdd, Nat.reduceSub, Nat.reduceMul, Nat.reduceMod, Nat.reduceDiv, Nat.reduceBEq, e_h1, h2', h11'', h11']
        refine J.ite (fun h12 => ?_) (fun h12 => ?_)
        · have h12' := decide_eq_true h12
          have h12'' : decide (x2 < x3.1) = false := decide_eq_false (by omega)
          refine J.some ?_
          simp (disch := first | assumption | decide | with_unfolding_all rfl | omega | (simp only [LN] <;> omega) | (simp only [RO, OF])) only [RR, RM, LN, TT, d19_at, ↓reduceIte, Nat.reduceEqDiff, Nat.reduceLT, Nat.reduceLeDiff, Nat.reduceAdd, Nat.reduceSub, Nat.reduceMul, Nat.reduceMod, Nat.reduceDiv, Nat.reduceBEq, e_h1, h2', h11'', h11', h12'', h12', FF, LN, NN, NT]
        · have h12' := decide_eq_false h12
          have h12'' : decide (x2 < x3.1) = true := decide_eq_true (by omega)
          conv => arg 1; simp (disch := first | assumption | decide | with_unfolding_all rfl | omega | (simp only [LN] <;> omega) | (simp only [RO, OF])) only [RR, RM, LN, TT, d19_at, ↓reduceIte, Nat.reduceEqDiff, Nat.reduceLT, Nat.reduceLeDiff, Nat.reduceAdd, Nat.reduceSub, Nat.reduceMul, Nat.reduceMod, Nat.reduceDiv, Nat.reduceBEq, e_h1, h2', h11'', h11', h12'', h12']
          refine J.jmp (t := ()) hj1 ?_ ?_
          · first | rfl | (simp only [LN, NN, NT])
          · first | (simp (disch := first | assumption | decide | with_unfolding_all rfl | omega | (simp only [LN] <;> omega) | (simp only [RO, OF])) only [RR, ↓reduceIte, Nat.reduceEqDiff, Nat.reduceLT, Nat.reduceLeDiff, Nat.reduceAdd, Nat.reduceSub, Nat.reduceMul, Nat.reduceMod, Nat.reduceDiv, Nat.reduceBEq, LN, NN, NT]; done) | rfl
  · have h2' := decide_eq_false h2
    refine J.some ?_
    simp (disch := first | assumption | decide | with_unfolding_all rfl | omega | (simp only [LN] <;> omega) | (simp only [RO, OF])) only [RR, RM, LN, TT, d19_at, ↓reduceIte, Nat.reduceEqDiff, Nat.reduceLT, Nat.reduceLeDiff, Nat.reduceAdd, Nat.reduceSub, Nat.reduceMul, Nat.reduceMod, Nat.reduceDiv, Nat.reduceBEq, e_h1, h2', FF, LN, NN, NT]
noncomputable def t19 (fu : Nat) : CallP := orE 15 (mkC (fun (t : List Int) => ([.arr t.length (lm (ik .i64) t)] : List AV)) (fun t => shape_Size fu t) e15) (orE 57 (mkC (fun (t : List Int) => ([.arr t.length (lm (ik .i64) t)] : List AV)) (fun t => shape_strides fu t) e57) (noP))
theorem t19_ok (fu : Nat) : CpOK Try.prog (t19 fu ) := orE_ok (orE_ok (noP_ok) (mkC_ok (fun t b h => ok57 fu t  b h))) (mkC_ok (fun t b h => ok15 fu t  b h))
theorem ok19 (fu : Nat) (x1 : List Int) (x2 : Int) (r) (h : shape_Index fu x1 x2 = some r) : PureOK Try.prog 19 [.arr x1.length (lm (ik .i64) x1), .v (.int .i64 x2)] (e19 r) :=
  pure_J mixed (cp := t19 fu ) (t19_ok fu  ) noI_ok i19 (w19 _ fu x1 x2  (fun a0 r h => orE_hit (mkC_at (a := a0) (by intro a b h; first | (exact rfl) | (simp only [INJ] at h; first | exact h | (simp_all [Prod.ext_iff]) )) h)) (fun a0 r h => orE_miss (by decide) (orE_hit (mkC_at (a := a0) (by intro a b h; first | (exact rfl) | (simp only [INJ] at h; first | exact h | (simp_all [Prod.ext_iff]) )) h)))) h
/-! 21: lattice/shape.Offset -/
def d21 : List (Nat × List Nat) := [(0, [4, 5]), (0, [0, 1, 9, 10, 25, 26, 27]), (0, [6, 11, 12, 13, 14, 15]), (0, []), (0, [16]), (0, []), (0, [18]), (0, []), (0, [7, 19, 20, 21, 22]), (0, []), (0, []), (0, []), (0, []), (0, []), (0, [24]), (0, []), (0, []), (0, []), (0, [29, 30, 31]), (0, []), (16, [32, 33, 34, 35, 36, 37, 38, 39, 40, 41, 42, 43, 44, 45, 46]), (0, []), (0, []), (0, []), (0, [9, 10, 48, 49, 50, 51, 52, 53, 54, 55]), (0, []), (0, [56]), (0, []), (0, [57]), (0, []), (0, []), (0, []), (0, [8, 59])]
def d21_at := And.intro (show d21.getD 0 (0, []) = (0, [4, 5]) from rfl) <| And.intro (show d21.getD 1 (0, []) = (0, [0, 1, 9, 10, 25, 26, 27]) from rfl) <| And.intro (show d21.getD 2 (0, []) = (0, [6, 11, 12, 13, 14, 15]) from rfl) <| And.intro (show d21.getD 3 (0, []) = (0, []) from rfl) <| And.intro (show d21.getD 4 (0, []) = (0, [16]) from rfl) <| And.intro (show d21.getD 5 (0, []) = (0, []) from rfl) <| And.intro (show d21.getD 6 (0, []) = (0, [18]) from rfl) <| And.intro (show d21.getD 7 (0, []) = (0, []) from rfl) <| And.intro (show d21.getD 8 (0, []) = (0, [7, 19, 20, 21, 22]) from rfl) <| And.intro (show d21.getD 9 (0, []) = (0, []) from rfl) <| And.intro (show d21.getD 10 (0, []) = (0, []) from rfl) <| And.intro (show d21.getD 11 (0, []) = (0, []) from rfl) <| And.intro (show d21.getD 12 (0, []) = (0, []) from rfl) <| And.intro (show d21.getD 13 (0, []) = (0, []) from rfl) <| And.intro (show d21.getD 14 (0, []) = (0, [24]) from rfl) <| And.intro (show d21.getD 15 (0, []) = (0, []) from rfl) <| And.intro (show d21.getD 16 (0, []) = (0, []) from rfl) <| And.intro (show d21.getD 17 (0, []) = (0, []) from rfl) <| And.intro (show d21.getD 18 (0, []) = (0, [29, 30, 31]) from rfl) <| And.intro (show d21.getD 19 (0, []) = (0, []) from rfl) <| And.intro (show d21.getD 20 (0, []) = (16, [32, 33, 34, 35, 36, 37, 38, 39, 40, 41, 42, 43, 44, 45, 46]) from rfl) <| And.intro (show d21.getD 21 (0, []) = (0, []) from rfl) <| And.intro (show d21.getD 22 (0, []) = (0, []) from rfl) <| And.intro (show d21.getD 23 (0, []) = (0, []) from rfl) <| And.intro (show d21.getD 24 (0, []) = (0, [9, 10, 48, 49, 50, 51, 52, 53, 54, 55]) from rfl) <| And.intro (show d21.getD 25 (0, []) = (0, []) from rfl) <| And.intro (show d21.getD 26 (0, []) = (0, [56]) from rfl) <| And.intro (show d21.getD 27 (0, []) = (0, []) from rfl) <| And.intro (show d21.getD 28 (0, []) = (0, [57]) from rfl) <| And.intro (show d21.getD 29 (0, []) = (0, []) from rfl) <| And.intro (show d21.getD 30 (0, []) = (0, []) from rfl) <| And.intro (show d21.getD 31 (0, []) = (0, []) from rfl) <| (show d21.getD 32 (0, []) = (0, [8, 59]) from rfl)
theorem i21 : finfo Try.prog 21 d21 = some ⟨bodyOf Try.f21, [.tmp 4, .tmp 5], [3, 25]⟩ := finfo_at Try.func21 rfl (by kernel_rfl) (by kernel_rfl)
def e21 : (Int × Int) → AV := fun r => .tuple [.v (.int .i64 r.1), .v (.int .i64 r.2)]
set_option maxHeartbeats 1000000 in
theorem w21 (cp : CallP) (fu : Nat) (x1 : List Int) (x2 : List Int) (H15_0 : ∀ (a0 : List Int) r, shape_Size fu a0 = some r → cp 15 [.arr a0.length (lm (ik .i64) a0)] = some (.tuple [.v (.int .i64 r.1), .v (.int .i64 r.2)])) (H57_0 : ∀ (a0 : List Int) r, shape_strides fu a0 = some r → cp 57 [.arr a0.length (lm (ik .i64) a0)] = some (.fresh 1 r.length (lm (ik .i64) r))) : J (go Try.prog noC cp noI 0 [] d21 fu (fin Try.prog [.tmp 4, .tmp 5] [3, 25]) (bodyOf Try.f21) (initE 0 [.arr x1.length (lm (ik .i64) x1), .arr x2.length (lm (ik .i64) x2)]) [] []) (shape_Offset fu x1 x2) e21 := by
  unfold shape_Offset e21
  conv => arg 1; simp (disch := first | assumption | decide | with_unfolding_all rfl | omega | (simp only [LN] <;> omega) | (simp only [RO, OF])) only [bodyOf, Try.f21, RR, RM, LN, TT, d21_at, ↓reduceIte, Nat.reduceEqDiff, Nat.reduceLT, Nat.reduceLeDiff, Nat.reduceAdd, Nat.reduceSub, Nat.reduceMul, Nat.reduceMod, Nat.reduceDiv, Nat.reduceBEq]
  refine J.eq go_seq ?_
  refine J.bind fun x3 h1 => ?_
  have e_h1 := H15_0 _ _ h1
  try simp only [NN, NT, LN] at e_h1
  conv => arg 1; simp (disch := first | assumption | decide | with_unfolding_all rfl | omega | (simp only [LN] <;> omega) | (simp only [RO, OF])) only [RR, RM, LN, TT, d21_at, ↓reduceIte, Nat.reduceEqDiff, Nat.reduceLT, Nat.reduceLeDiff, Nat.reduceAdd, Nat.reduceSub, Nat.reduceMul, Nat.reduceMod, Nat.reduceDiv, Nat.reduceBEq, e_h1]
  refine J.ite (fun h2 => ?_) (fun h2 => ?_)
  · have h2' := decide_eq_true h2
    conv => arg 1; simp (disch := first | assumption | decide | with_unfolding_all rfl | omega | (simp only [LN] <;> omega) | (simp only [RO, OF])) only [RR, RM, LN, TT, d21_at, ↓reduceIte, Nat.reduceEqDiff, Nat.reduceLT, Nat.reduceLeDiff, Nat.reduceAdd, Nat.reduceSub, Nat.reduceMul, Nat.reduceMod, Nat.reduceDiv, Nat.reduceBEq, e_h1, h2']
    refine J.eq ret_seq ?_
    refine J.eq go_seq ?_
    conv => arg 1; simp (disch := first | assumption | decide | with_unfolding_all rfl | omega | (simp only [LN] <;> omega) | (simp only [RO, OF])) only [RR, RM, LN, TT, d21_at, ↓reduceIte, Nat.reduceEqDiff, Nat.reduceLT, Nat.reduceLeDiff, Nat.reduceAdd, Nat.reduceSub, Nat.reduceMul, Nat.reduceMod, Nat.reduceDiv, Nat.reduceBEq, e_h1, h2']
    refine J.ite (fun h3 => ?_) (fun h3 => ?_)
    · have h3' := decide_eq_true h3
      conv => arg 1; simp (disch := first | assumption | decide | with_unfolding_all rfl | omega | (simp only [LN] <;> omega) | (simp only [RO, OF])) only [RR, RM, LN, TT, d21_at, ↓reduceIte, Nat.reduceEqDiff, Nat.reduceLT, Nat.reduceLeDiff, Nat.reduceAdd, Nat.reduceSub, Nat.reduceMul, Nat.reduceMod, Nat.reduceDiv, Nat.reduceBEq, e_h1, h2', h3']
      refine J.eq ret_seq ?_
      conv => arg 1; simp (disch := first | assumption | decide | with_unfolding_all rfl | omega | (simp only [LN] <;> omega) | (simp only [RO, OF])) only [RR, RM, LN, TT, d21_at, ↓reduceIte, Nat.reduceEqDiff, Nat.reduceLT, Nat.reduceLeDiff, Nat.reduceAdd, Nat.reduceSub, Nat.reduceMul, Nat.reduceMod, Nat.reduceDiv, Nat.reduceBEq, e_h1, h2', h3']
      refine J.eq go_seq ?_
      conv => arg 1; simp (disch := first | assumption | decide | with_unfolding_all rfl | omega | (simp only [LN] <;> omega) | (simp only [RO, OF])) only [RR, RM, LN, TT, d21_at, ↓reduceIte, Nat.reduceEqDiff, Nat.reduceLT, Nat.reduceLeDiff, Nat.reduceAdd, Nat.reduceSub, Nat.reduceMul, Nat.reduceMod, Nat.reduceDiv, Nat.reduceBEq, e_h1, h2', h3']
      refine J.eq ret_seq ?_
      refine J.joinS (fun (t : (List Int) × Int) => ([(8, .v (.int .i64 t.2))], [((0, 25, 0), .sl true true 1 t.1.length (lm (ik .i64) t.1))])) (fun t => shape_Offset_k1 fu t.1 t.2) ?_ (fun hj1 => ?_)
      · rintro ⟨x4, x5⟩
        show J _ (shape_Offset_k1 fu x4 x5) _
        unfold shape_Offset_k1
        refine J.eq go_seq ?_
        conv => arg 1; simp (disch := first | assumption | decide | with_unfolding_all rfl | omega | (simp only [LN] <;> omega) | (simp only [RO, OF])) only [RR, RM, LN, TT, d21_at, ↓reduceIte, Nat.reduceEqDiff, Nat.reduceLT, Nat.reduceLeDiff, Nat.reduceAdd, Nat.reduceSub, Nat.reduceMul, Nat.reduceMod, Nat.reduceDiv, Nat.reduceBEq, e_h1, h2', h3']
        refine J.ite (fun h4 => ?_) (fun h4 => ?_)
        · have h4' := decide_eq_true h4
          have h4'' : decide (0 ≤ x5) = false := decide_eq_false (by omega)
          refine J.some ?_
          simp (disch := first | assumption | decide | with_unfolding_all rfl | omega | (simp only [LN] <;> omega) | (simp only [RO, OF])) only [RR, RM, LN, TT, d21_at, ↓reduceIte, Nat.reduceEqDiff, Nat.reduceLT, Nat.reduceLeDiff, Nat.reduceAdd, Nat.reduceSub, Nat.reduceMul, Nat.reduceMod, Nat.reduceDiv, Nat.reduceBEq, e_h1, h2', h3', h4'', h4', FF, LN, NN, NT]
        · have h4' := decide_eq_false h4
          have h4'' : decide (0 ≤ x5) = true := decide_eq_true (by omega)
          conv => arg 1; simp (disch := first | assumption | decide | with_unfolding_all rfl | omega | (simp only [LN] <;> omega) | (simp only [RO, OF])) only [RR, RM, LN, TT, d21_at, ↓reduceIte, Nat.reduceEqDiff, Nat.reduceLT, Nat.reduceLeDiff, Nat.reduceAdd, Nat.reduceSub, Nat.reduceMul, Nat.reduceMod, Nat.reduceDiv, Nat.reduceBEq, e_h1, h2', h3', h4'', h4']
          refine J.eq ret_seq ?_
          refine J.some ?_
          simp (disch := first | assumption | decide | with_unfolding_all rfl | omega | (simp only [LN] <;> omega) | (simp only [RO, OF])) only [RR, RM, LN, TT, d21_at, ↓reduceIte, Nat.reduceEqDiff, Nat.reduceLT, Nat.reduceLeDiff, Nat.reduceAdd, Nat.reduceSub, Nat.reduceMul, Nat.reduceMod, Nat.reduceDiv, Nat.reduceBEq, e_h1, h2', h3', h4'', h4', FF, LN, NN, NT]
      · refine J.bind fun x6 h5 => ?_
        have e_h5 := H57_0 _ _ h5
        try simp only [NN, NT, LN] at e_h5
        conv => arg 1; simp (disch := first | assumption | decide | with_unfolding_all rfl | omega | (simp only [LN] <;> omega) | (simp only [RO, OF])) only [RR, RM, LN, TT, d21_at, ↓reduceIte, Nat.reduceEqDiff, Nat.reduceLT, Nat.reduceLeDiff, Nat.reduceAdd, Nat.reduceSub, Nat.reduceMul, Nat.reduceMod, Nat.reduceDiv, Nat.reduceBEq, e_h1, h2', h3', e_h5]
        unfold shape_Offset_W1
        refine J.loop (fun (s : Int × Int) => ([(0, .arr x1.length (lm (ik .i64) x1)), (1, .arr x2.length (lm (ik .i64) x2)), (8, .v (.int .i64 s.1)), (25, .own (0, 25, 0) 0 x6.length x6.length), (26, .v (.int .i64 (x6.length : Int))), (27, .v (.int .i64 s.2))], [((0, 25, 0), .sl true true 1 x6.length (lm (ik .i64) x6))])) (fun next s => shape_Offset_L1 fu x1 x2 x6 (fun x11 x12 => next (x11, x12)) s.1 s.2) (s0 := (0, 0)) ?_ ?_ ?_
        · first | rfl | (simp only [LN, NN, NT])
        · first | (simp (disch := first | assumption | decide | with_unfolding_all rfl | omega | (simp only [LN] <;> omega) | (simp only [RO, OF])) only [RR, ↓reduceIte, Nat.reduceEqDiff, Nat.reduceLT, Nat.reduceLeDiff, Nat.reduceAdd, Nat.reduceSub, Nat.reduceMul, Nat.reduceMod, Nat.reduceDiv, Nat.reduceBEq, LN, NN, NT]; done) | rfl
        rintro next k1 hn1 ⟨x11, x12⟩
        let nx1 : Int → Int → Option (Int × Int) := (fun x11 x12 => next (x11, x12))
        show J _ (shape_Offset_L1 fu x1 x2 x6 nx1 x11 x12) _
        unfold shape_Offset_L1
        conv => arg 1; simp (disch := first | assumption | decide | with_unfolding_all rfl | omega | (simp only [LN] <;> omega) | (simp only [RO, OF])) only [RR, RM, LN, TT, d21_at, ↓reduceIte, Nat.reduceEqDiff, Nat.reduceLT, Nat.reduceLeDiff, Nat.reduceAdd, Nat.reduceSub, Nat.reduceMul, Nat.reduceMod, Nat.reduceDiv, Nat.reduceBEq, e_h1, h2', h3', e_h5]
        refine J.eq go_seq ?_
        conv => arg 1; simp (disch := first | assumption | decide | with_unfolding_all rfl | omega | (simp only [LN] <;> omega) | (simp only [RO, OF])) only [RR, RM, LN, TT, d21_at, ↓reduceIte, Nat.reduceEqDiff, Nat.reduceLT, Nat.reduceLeDiff, Nat.reduceAdd, Nat.reduceSub, Nat.reduceMul, Nat.reduceMod, Nat.reduceDiv, Nat.reduceBEq, e_h1, h2', h3', e_h5]
        refine J.ite (fun h6 => ?_) (fun h6 => ?_)
        · have h6' := decide_eq_true h6
          have h6'' : decide ((x6.length : Int) ≤ x12) = false := decide_eq_false (by omega)
          conv => arg 1; simp (disch := first | assumption | decide | with_unfolding_all rfl | omega | (simp only [LN] <;> omega) | (simp only [RO, OF])) only [RR, RM, LN, TT, d21_at, ↓reduceIte, Nat.reduceEqDiff, Nat.reduceLT, Nat.reduceLeDiff, Nat.reduceAdd, Nat.reduceSub, Nat.reduceMul, Nat.reduceMod, Nat.reduceDiv, Nat.reduceBEq, e_h1, h2', h3', e_h5, h6'', h6']
          refine J.eq ret_seq ?_
          refine J.eq go_seq ?_
          refine J.at fun x17 h7 h8 h9 => ?_
          conv => arg 1; simp (disch := first | assumption | decide | with_unfolding_all rfl | omega | (simp only [LN] <;> omega) | (simp only [RO, OF])) only [RR, RM, LN, TT, d21_at, ↓reduceIte, Nat.reduceEqDiff, Nat.reduceLT, Nat.reduceLeDiff, Nat.reduceAdd, Nat.reduceSub, Nat.reduceMul, Nat.reduceMod, Nat.reduceDiv, Nat.reduceBEq, e_h1, h2', h3', e_h5, h6'', h6', lm_ik h9]
          refine J.joinS (fun (t : Unit) => ([(0, .arr x1.length (lm (ik .i64) x1)), (1, .arr x2.length (lm (ik .i64) x2)), (8, .v (.int .i64 x11)), (9, .v (.int .i64 x12)), (10, .v (.int .i64 x17)), (25, .own (0, 25, 0) 0 x6.length x6.length), (26, .v (.int .i64 (x6.length : Int))), (27, .v (.int .i64 x12))], [((0, 25, 0), .sl true true 1 x6.length (lm (ik .i64) x6))])) (fun t => shape_Offset_k2 fu nx1 x2 x11 x12 x17) ?_ (fun hj2 => ?_)
          · rintro ⟨⟩
            show J _ (shape_Offset_k2 fu nx1 x2 x11 x12 x17) _
            unfold shape_Offset_k2
            refine J.at fun x18 h10 h11 h12 => ?_
            conv => arg 1; simp (disch := first | assumption | decide | with_unfolding_all rfl | omega | (simp only [LN] <;> omega) | (simp only [RO, OF])) only [RR, RM, LN, TT, d21_at, ↓reduceIte, Nat.reduceEqDiff, Nat.reduceLT, Nat.reduceLeDiff, Nat.reduceAdd, Nat.reduceSub, Nat.reduceMul, Nat.reduceMod, Nat.reduceDiv, Nat.reduceBEq, e_h1, h2', h3', e_h5, h6'', h6', lm_ik h9, lm_ik h12]
            refine J.eq ret_seq ?_
            conv => arg 1; simp (disch := first | assumption | decide | with_unfolding_all rfl | omega | (simp only [LN] <;> omega) | (simp only [RO, OF])) only [RR, RM, LN, TT, d21_at, ↓reduceIte, Nat.reduceEqDiff, Nat.reduceLT, Nat.reduceLeDiff, Nat.reduceAdd, Nat.reduceSub, Nat.reduceMul, Nat.reduceMod, Nat.reduceDiv, Nat.reduceBEq, e_h1, h2', h3', e_h5, h6'', h6', lm_ik h9, lm_ik h12]
            refine J.next (s := (wk .i64 (x11 + (wk .i64 (x18 * x17))), wk .i64 (x12 + 1))) hn1 ?_ ?_
            · first | rfl | (simp only [LN, NN, NT])
            · first | (simp (disch := first | assumption | decide | with_unfolding_all rfl | omega | (simp only [LN] <;> omega) | (simp only [RO, OF])) only [RR, ↓reduceIte, Nat.reduceEqDiff, Nat.reduceLT, Nat.reduceLeDiff, Nat.reduceAdd, Nat.reduceSub, Nat.reduceMul, Nat.reduceMod, Nat.reduceDiv, Nat.reduceBEq, LN, NN, NT]; done) | rfl
          · refine J.eq go_seq ?_
            refine J.at fun x19 h13 h14 h15 => ?_
            conv => arg 1; simp (disch := first | assumption | decide | with_unfolding_all rfl | omega | (simp only [LN] <;> omega) | (simp only [RO, OF])) only [RR, RM, LN, TT, d21_at, ↓reduceIte, Nat.reduceEqDiff, Nat.reduceLT, Nat.reduceLeDiff, Nat.reduceAdd, Nat.reduceSub, Nat.reduceMul, Nat.reduceMod, Nat.reduceDiv, Nat.reduceBEq, e_h1, h2', h3', e_h5, h6'', h6', lm_ik h9, lm_ik h15]
            refine J.ite (fun h16 => ?_) (fun h16 => ?_)
            · have h16' := decide_eq_true h16
              have h16'' : decide (0 ≤ x19) = false := decide_eq_false (by omega)
              conv => arg 1; simp (disch := first | assumption | decide | with_unfolding_all rfl | omega | (simp only [LN] <;> omega) | (simp only [RO, OF])) only [RR, RM, LN, TT, d21_at, ↓reduceIte, Nat.reduceEqDiff, Nat.reduceLT, Nat.reduceLeDiff, Nat.reduceAdd, Nat.reduceSub, Nat.reduceMul, Nat.reduceMod, Nat.reduceDiv, Nat.reduceBEq, e_h1, h2', h3', e_h5, h6'', h6', lm_ik h9, lm_ik h15, h16'', h16']
              refine J.eq ret_seq ?_
              conv => arg 1; simp (disch := first | assumption | decide | with_unfolding_all rfl | omega | (simp only [LN] <;> omega) | (simp only [RO, OF])) only [RR, RM, LN, TT, d21_at, ↓reduceIte, Nat.reduceEqDiff, Nat.reduceLT, Nat.reduceLeDiff, Nat.reduceAdd, Nat.reduceSub, Nat.reduceMul, Nat.reduceMod, Nat.reduceDiv, Nat.reduceBEq, e_h1, h2', h3', e_h5, h6'', h6', lm_ik h9, lm_ik h15, h16'', h16']
              refine J.jmp (t := (x6, -1)) hj1 ?_ ?_
              · first | rfl | (simp only [LN, NN, NT])
              · first | (simp (disch := first | assumption | decide | with_unfolding_all rfl | omega | (simp only [LN] <;> omega) | (simp only [RO, OF])) only [RR, ↓reduceIte, Nat.reduceEqDiff, Nat.reduceLT, Nat.reduceLeDiff, Nat.reduceAdd, Nat.reduceSub, Nat.reduceMul, Nat.reduceMod, Nat.reduceDiv, Nat.reduceBEq, LN, NN, NT]; done) | rfl
            · have h16' := decide_eq_false h16
              have h16'' : decide (0 ≤ x19) = true := decide_eq_true (by omega)
              refine J.at fun x20 h17 h18 h19 => ?_
              conv => arg 1; simp (disch := first | assumption | decide | with_unfolding_all rfl | omega | (simp only [LN] <;> omega) | (simp only [RO, OF])) only [RR, RM, LN, TT, d21_at, ↓reduceIte, Nat.reduceEqDiff, Nat.reduceLT, Nat.reduceLeDiff, Nat.reduceAdd, Nat.reduceSub, Nat.reduceMul, Nat.reduceMod, Nat.reduceDiv, Nat.reduceBEq, e_h1, h2', h3', e_h5, h6'', h6', lm_ik h9, lm_ik h15, h16'', h16', lm_ik h19]
              refine J.eq ret_seq ?_
              conv => arg 1; simp (disch := first | assumption | decide | with_unfolding_all rfl | omega | (simp only [LN] <;> omega) | (simp only [RO, OF])) only [RR, RM, LN, TT, d21_at, ↓reduceIte, Nat.reduceEqDiff, Nat.reduceLT, Nat.reduceLeDiff, Nat.reduceAdd, Nat.reduceSub, Nat.reduceMul, Nat.reduceMod, Nat.reduceDiv, Nat.reduceBEq, e_h1, h2', h3', e_h5, h6'', h6', lm_ik h9, lm_ik h15, h16'', h16', lm_ik h19]
              refine J.ite (fun h20 => ?_) (fun h20 => ?_)
              · have h20' := decide_eq_true h20
                have h20'' : decide (x19 < x20) = false := decide_eq_false (by omega)
                conv => arg 1; simp (disch := first | assumption | decide | with_unfolding_all rfl | omega | (simp only [LN] <;> omega) | (simp only [RO, OF])) only [RR, RM, LN, TT, d21_at, ↓reduceIte, Nat.reduceEqDiff, Nat.reduceLT, Nat.reduceLeDiff, Nat.reduceAdd, Nat.reduceSub, Nat.reduceMul, Nat.reduceMod, Nat.reduceDiv, Nat.reduceBEq, e_h1, h2', h3', e_h5, h6'', h6', lm_ik h9, lm_ik h15, h16'', h16', lm_ik h19, h20'', h20']
                refine J.jmp (t := (x6, -1)) hj1 ?_ ?_
                · first | rfl | (simp only [LN, NN, NT])
                · first | (simp (disch := first | assumption | decide | with_unfolding_all rfl | omega | (simp only [LN] <;> omega) | (simp only [RO, OF])) only [RR, ↓reduceIte, Nat.reduceEqDiff, Nat.reduceLT, Nat.reduceLeDiff, Nat.reduceAdd, Nat.reduceSub, Nat.reduceMul, Nat.reduceMod, Nat.reduceDiv, Nat.reduceBEq, LN, NN, NT]; done) | rfl
              · have h20' := decide_eq_false h20
                have h20'' : decide (x19 < x20) = true := decide_eq_true (by omega)
                conv => arg 1; simp (disch := first | assumption | decide | with_unfolding_all rfl | omega | (simp only [LN] <;> omega) | (simp only [RO, OF])) only [RR, RM, LN, TT, d21_at, ↓reduceIte, Nat.reduceEqDiff, Nat.reduceLT, Nat.reduceLeDiff, Nat.reduceAdd, Nat.reduceSub, Nat.reduceMul, Nat.reduceMod, Nat.reduceDiv, Nat.reduceBEq, e_h1, h2', h3', e_h5, h6'', h6', lm_ik h9, lm_ik h15, h16'', h16', lm_ik h19, h20'', h20']
                refine J.jmp (t := ()) hj2 ?_ ?_
                · first | rfl | (simp only [LN, NN, NT])
                · first | (simp (disch := first | assumption | decide | with_unfolding_all rfl | omega | (simp only [LN] <;> omega) | (simp only [RO, OF])) only [RR, ↓reduceIte, Nat.reduceEqDiff, Nat.reduceLT, Nat.reduceLeDiff, Nat.reduceAdd, Nat.reduceSub, Nat.reduceMul, Nat.reduceMod, Nat.reduceDiv, Nat.reduceBEq, LN, NN, NT]; done) | rfl
        · have h6' := decide_eq_false h6
          have h6'' : decide ((x6.length : Int) ≤ x12) = true := decide_eq_true (by omega)
          conv => arg 1; simp (disch := first | assumption | decide | with_unfolding_all rfl | omega | (simp only [LN] <;> omega) | (simp only [RO, OF])) only [RR, RM, LN, TT, d21_at, ↓reduceIte, Nat.reduceEqDiff, Nat.reduceLT, Nat.reduceLeDiff, Nat.reduceAdd, Nat.reduceSub, Nat.reduceMul, Nat.reduceMod, Nat.reduceDiv, Nat.reduceBEq, e_h1, h2', h3', e_h5, h6'', h6']
          refine J.jmp (t := (x6, x11)) hj1 ?_ ?_
          · first | rfl | (simp only [LN, NN, NT])
          · first | (simp (disch := first | assumption | decide | with_unfolding_all rfl | omega | (simp only [LN] <;> omega) | (simp only [RO, OF])) only [RR, ↓reduceIte, Nat.reduceEqDiff, Nat.reduceLT, Nat.reduceLeDiff, Nat.reduceAdd, Nat.reduceSub, Nat.reduceMul, Nat.reduceMod, Nat.reduceDiv, Nat.reduceBEq, LN, NN, NT]; done) | rfl
    · have h3' := decide_eq_false h3
      refine J.some ?_
      simp (disch := first | assumption | decide | with_unfolding_all rfl | omega | (simp only [LN] <;> omega) | (simp only [RO, OF])) only [RR, RM, LN, TT, d21_at, ↓reduceIte, Nat.reduceEqDiff, Nat.reduceLT, Nat.reduceLeDiff, Nat.reduceAdd, Nat.reduceSub, Nat.reduceMul, Nat.reduceMod, Nat.reduceDiv, Nat.reduceBEq, e_h1, h2', h3', FF, LN, NN, NT]
  · have h2' := decide_eq_false h2
    refine J.some ?_
    simp (disch := first | assumption | decide | with_unfolding_all rfl | omega | (simp only [LN] <;> omega) | (simp only [RO, OF])) only [RR, RM, LN, TT, d21_at, ↓reduceIte, Nat.reduceEqDiff, Nat.reduceLT, Nat.reduceLeDiff, Nat.reduceAdd, Nat.reduceSub, Nat.reduceMul, Nat.reduceMod, Nat.reduceDiv, Nat.reduceBEq, e_h1, h2', FF, LN, NN, NT]
noncomputable def t21 (fu : Nat) : CallP := orE 15 (mkC (fun (t : List Int) => ([.arr t.length (lm (ik .i64) t)] : List AV)) (fun t => shape_Size fu t) e15) (orE 57 (mkC (fun (t : List Int) => ([.arr t.length (lm (ik .i64) t)] : List AV)) (fun t => shape_strides fu t) e57) (noP))
theorem t21_ok (fu : Nat) : CpOK Try.prog (t21 fu ) := orE_ok (orE_ok (noP_ok) (mkC_ok (fun t b h => ok57 fu t  b h))) (mkC_ok (fun t b h => ok15 fu t  b h))
theorem ok21 (fu : Nat) (x1 : List Int) (x2 : List Int) (r) (h : shape_Offset fu x1 x2 = some r) : PureOK Try.prog 21 [.arr x1.length (lm (ik .i64) x1), .arr x2.length (lm (ik .i64) x2)] (e21 r) :=
  pure_J mixed (cp := t21 fu ) (t21_ok fu  ) noI_ok i21 (w21 _ fu x1 x2  (fun a0 r h => orE_hit (mkC_at (a := a0) (by intro a b h; first | (exact rfl) | (simp only [INJ] at h; first | exact h | (simp_all [Prod.ext_iff]) )) h)) (fun a0 r h => orE_miss (by decide) (orE_hit (mkC_at (a := a0) (by intro a b h; first | (exact rfl) | (simp only [INJ] at h; first | exact h | (simp_all [Prod.ext_iff]) )) h)))) h
/-! 58: slices.Clone[[]int,int] -/
def d58 : List (Nat × List Nat) := [(0, [2]), (0, []), (0, [3]), (0, []), (0, []), (0, []), (0, [0, 5, 6, 7])]
def d58_at := And.intro (show d58.getD 0 (0, []) = (0, [2]) from rfl) <| And.intro (show d58.getD 1 (0, []) = (0, []) from rfl) <| And.intro (show d58.getD 2 (0, []) = (0, [3]) from rfl) <| And.intro (show d58.getD 3 (0, []) = (0, []) from rfl) <| And.intro (show d58.getD 4 (0, []) = (0, []) from rfl) <| And.intro (show d58.getD 5 (0, []) = (0, []) from rfl) <| (show d58.getD 6 (0, []) = (0, [0, 5, 6, 7]) from rfl)
theorem i58 : finfo Try.prog 58 d58 = some ⟨bodyOf Try.f58, [.tmp 2], [22]⟩ := finfo_at Try.func58 rfl (by kernel_rfl) (by kernel_rfl)
def e58 : List Int → AV := fun r => .fresh 1 r.length (lm (ik .i64) r)
theorem ok58 (fu : Nat) (x1 : List Int) (r) (h : slices_Clone_int fu x1 = some r) : PureOK Try.prog 58 [.arr x1.length (lm (ik .i64) x1)] (e58 r) := by
  unfold slices_Clone_int chk at h
  split at h
  · rename_i hs; injection h with h; subst h
    cases x1 with
    | nil =>
      refine PureOK.arr0 fun a c => ?_
      refine pure_J mixed (C := noC) (cp := noP) (n := 0) noP_ok noI_ok i58 (s := some []) (enc := e58) ?_ rfl
      refine J.some ?_
      unfold e58
      cases a with
      | none =>
        conv => lhs; simp (disch := first | assumption | decide | with_unfolding_all rfl | omega | (simp only [LN] <;> omega) | (simp only [RO, OF])) only [bodyOf, Try.f58, RR, RM, LN, TT, d58_at, ↓reduceIte, Nat.reduceEqDiff, Nat.reduceLT, Nat.reduceLeDiff, Nat.reduceAdd, Nat.reduceSub, Nat.reduceMul, Nat.reduceMod, Nat.reduceDiv, Nat.reduceBEq, abin_sl tv22]
        rw [go_seq]
        simp (disch := first | assumption | decide | with_unfolding_all rfl | omega | (simp only [LN] <;> omega) | (simp only [RO, OF])) only [RR, RM, LN, TT, d58_at, ↓reduceIte, Nat.reduceEqDiff, Nat.reduceLT, Nat.reduceLeDiff, Nat.reduceAdd, Nat.reduceSub, Nat.reduceMul, Nat.reduceMod, Nat.reduceDiv, Nat.reduceBEq, abin_sl tv22, FF, NN, NT]
      | some a =>
        conv => lhs; simp (disch := first | assumption | decide | with_unfolding_all rfl | omega | (simp only [LN] <;> omega) | (simp only [RO, OF])) only [bodyOf, Try.f58, RR, RM, LN, TT, d58_at, ↓reduceIte, Nat.reduceEqDiff, Nat.reduceLT, Nat.reduceLeDiff, Nat.reduceAdd, Nat.reduceSub, Nat.reduceMul, Nat.reduceMod, Nat.reduceDiv, Nat.reduceBEq, abin_sl tv22]
        rw [go_seq]
        conv => lhs; simp (disch := first | assumption | decide | with_unfolding_all rfl | omega | (simp only [LN] <;> omega) | (simp only [RO, OF])) only [RR, RM, LN, TT, d58_at, ↓reduceIte, Nat.reduceEqDiff, Nat.reduceLT, Nat.reduceLeDiff, Nat.reduceAdd, Nat.reduceSub, Nat.reduceMul, Nat.reduceMod, Nat.reduceDiv, Nat.reduceBEq, abin_sl tv22]
        rw [ret_seq]
        simp (disch := first | assumption | decide | with_unfolding_all rfl | omega | (simp only [LN] <;> omega) | (simp only [RO, OF])) only [RR, RM, LN, TT, d58_at, ↓reduceIte, Nat.reduceEqDiff, Nat.reduceLT, Nat.reduceLeDiff, Nat.reduceAdd, Nat.reduceSub, Nat.reduceMul, Nat.reduceMod, Nat.reduceDiv, Nat.reduceBEq, abin_sl tv22, FF, NN, NT]
    | cons y x1 =>
      refine pure_J mixed (C := noC) (cp := noP) (n := 0) noP_ok noI_ok i58 (s := some (y :: x1)) (enc := e58) ?_ rfl
      refine J.some ?_
      have ha : ∀ xs, abin Try.prog .eql 22 (.arr (y :: x1).length xs) (.v (.slice none 0 0)) = some (.v (.bool false)) := fun xs => abin_an (op := .eql) tv22 (by simp)
      generalize y :: x1 = l at hs ha ⊢
      unfold e58
      conv => lhs; simp (disch := first | assumption | decide | with_unfolding_all rfl | omega | (simp only [LN] <;> omega) | (simp only [RO, OF])) only [bodyOf, Try.f58, RR, RM, LN, TT, d58_at, ↓reduceIte, Nat.reduceEqDiff, Nat.reduceLT, Nat.reduceLeDiff, Nat.reduceAdd, Nat.reduceSub, Nat.reduceMul, Nat.reduceMod, Nat.reduceDiv, Nat.reduceBEq, abin_sl tv22, ha]
      rw [go_seq]
      conv => lhs; simp (disch := first | assumption | decide | with_unfolding_all rfl | omega | (simp only [LN] <;> omega) | (simp only [RO, OF])) only [RR, RM, LN, TT, d58_at, ↓reduceIte, Nat.reduceEqDiff, Nat.reduceLT, Nat.reduceLeDiff, Nat.reduceAdd, Nat.reduceSub, Nat.reduceMul, Nat.reduceMod, Nat.reduceDiv, Nat.reduceBEq, abin_sl tv22, ha]
      rw [ret_seq]
      simp (disch := first | assumption | decide | with_unfolding_all rfl | omega | (simp only [LN] <;> omega) | (simp only [RO, OF])) only [RR, RM, LN, TT, d58_at, ↓reduceIte, Nat.reduceEqDiff, Nat.reduceLT, Nat.reduceLeDiff, Nat.reduceAdd, Nat.reduceSub, Nat.reduceMul, Nat.reduceMod, Nat.reduceDiv, Nat.reduceBEq, abin_sl tv22, FF, NN, NT, lm_length]
  · cases h
/-! 25: lattice/shape.Broadcast -/
def d25 : List (Nat × List Nat) := [(0, [4, 5]), (0, [19, 20, 21]), (0, [17, 18]), (0, [9]), (0, []), (0, [11, 48, 49, 50]), (0, [23, 24]), (0, []), (0, [7, 8, 25, 26, 27, 28, 29]), (0, [12, 13, 14]), (0, [30]), (0, []), (0, [32]), (0, []), (0, [33]), (0, []), (0, [34, 35, 36, 37]), (0, []), (0, [39, 40]), (0, []), (0, [41, 42]), (0, []), (0, [0, 43, 44, 45, 46, 47]), (0, []), (0, [1]), (0, []), (0, []), (0, []), (0, [52, 53, 54]), (0, []), (0, [55, 56, 57, 58, 59, 60]), (0, []), (0, [62, 63]), (0, []), (0, [64, 65, 66, 67, 68, 69]), (0, []), (0, [71, 72, 73, 74, 75, 76, 77]), (0, []), (0, []), (0, []), (0, [78]), (0, []), (0, [15, 79, 80, 81, 82, 83]), (0, []), (0, [84]), (0, []), (0, [86]), (0, []), (0, [10, 16, 87])]
def d25_at := And.intro (show d25.getD 0 (0, []) = (0, [4, 5]) from rfl) <| And.intro (show d25.getD 1 (0, []) = (0, [19, 20, 21]) from rfl) <| And.intro (show d25.getD 2 (0, []) = (0, [17, 18]) from rfl) <| And.intro (show d25.getD 3 (0, []) = (0, [9]) from rfl) <| And.intro (show d25.getD 4 (0, []) = (0, []) from rfl) <| And.intro (show d25.getD 5 (0, []) = (0, [11, 48, 49, 50]) from rfl) <| And.intro (show d25.getD 6 (0, []) = (0, [23, 24]) from rfl) <| And.intro (show d25.getD 7 (0, []) = (0, []) from rfl) <| And.intro (show d25.getD 8 (0, []) = (0, [7, 8, 25, 26, 27, 28, 29]) from rfl) <| And.intro (show d25.getD 9 (0, []) = (0, [12, 13, 14]) from rfl) <| And.intro (show d25.getD 10 (0, []) = (0, [30]) from rfl) <| And.intro (show d25.getD 11 (0, []) = (0, []) from rfl) <| And.intro (show d25.getD 12 (0, []) = (0, [32]) from rfl) <| And.intro (show d25.getD 13 (0, []) = (0, []) from rfl) <| And.intro (show d25.getD 14 (0, []) = (0, [33]) from rfl) <| And.intro (show d25.getD 15 (0, []) = (0, []) from rfl) <| And.intro (show d25.getD 16 (0, []) = (0, [34, 35, 36, 37]) from rfl) <| And.intro (show d25.getD 17 (0, []) = (0, []) from rfl) <| And.intro (show d25.getD 18 (0, []) = (0, [39, 40]) from rfl) <| And.intro (show d25.getD 19 (0, []) = (0, []) from rfl) <| And.intro (show d25.getD 20 (0, []) = (0, [41, 42]) from rfl) <| And.intro (show d25.getD 21 (0, []) = (0, []) from rfl) <| And.intro (show d25.getD 22 (0, []) = (0, [0, 43, 44, 45, 46, 47]) from rfl) <| And.intro (show d25.getD 23 (0, []) = (0, []) from rfl) <| And.intro (show d25.getD 24 (0, []) = (0, [1]) from rfl) <| And.intro (show d25.getD 25 (0, []) = (0, []) from rfl) <| And.intro (show d25.getD 26 (0, []) = (0, []) from rfl) <| And.intro (show d25.getD 27 (0, []) = (0, []) from rfl) <| And.intro (show d25.getD 28 (0, []) = (0, [52, 53, 54]) from rfl) <| And.intro (show d25.getD 29 (0, []) = (0, []) from rfl) <| And.intro (show d25.getD 30 (0, []) = (0, [55, 56, 57, 58, 59, 60]) from rfl) <| And.intro (show d25.getD 31 (0, []) = (0, []) from rfl) <| And.intro (show d25.getD 32 (0, []) = (0, [62, 63]) from rfl) <| And.intro (show d25.getD 33 (0, []) = (0, []) from rfl) <| And.intro (show d25.getD 34 (0, []) = (0, [64, 65, 66, 67, 68, 69]) from rfl) <| And.intro (show d25.getD 35 (0, []) = (0, []) from rfl) <| And.intro (show d25.getD 36 (0, []) = (0, [71, 72, 73, 74, 75, 76, 77]) from rfl) <| And.intro (show d25.getD 37 (0, []) = (0, []) from rfl) <| And.intro (show d25.getD 38 (0, []) = (0, []) from rfl) <| And.intro (show d25.getD 39 (0, []) = (0, []) from rfl) <| And.intro (show d25.getD 40 (0, []) = (0, [78]) from rfl) <| And.intro (show d25.getD 41 (0, []) = (0, []) from rfl) <| And.intro (show d25.getD 42 (0, []) = (0, [15, 79, 80, 81, 82, 83]) from rfl) <| And.intro (show d25.getD 43 (0, []) = (0, []) from rfl) <| And.intro (show d25.getD 44 (0, []) = (0, [84]) from rfl) <| And.intro (show d25.getD 45 (0, []) = (0, []) from rfl) <| And.intro (show d25.getD 46 (0, []) = (0, [86]) from rfl) <| And.intro (show d25.getD 47 (0, []) = (0, []) from rfl) <| (show d25.getD 48 (0, []) = (0, [10, 16, 87]) from rfl)
theorem i25 : finfo Try.prog 25 d25 = some ⟨bodyOf Try.f25, [.tmp 4, .tmp 5], [22, 25]⟩ := finfo_at Try.func25 rfl (by kernel_rfl) (by kernel_rfl)
def e25 : ((List Int) × Int) → AV := fun r => .tuple [.fresh 1 r.1.length (lm (ik .i64) r.1), .v (.int .i64 r.2)]
set_option maxHeartbeats 1000000 in
theorem w25 (cp : CallP) (fu : Nat) (x1 : List Int) (x2 : List Int) (H15_0 : ∀ (a0 : List Int) r, shape_Size fu a0 = some r → cp 15 [.arr a0.length (lm (ik .i64) a0)] = some (.tuple [.v (.int .i64 r.1), .v (.int .i64 r.2)])) (H58_0 : ∀ (a0 : List Int) r, slices_Clone_int fu a0 = some r → cp 58 [.arr a0.length (lm (ik .i64) a0)] = some (.fresh 1 r.length (lm (ik .i64) r))) : J (go Try.prog noC cp noI 0 [] d25 fu (fin Try.prog [.tmp 4, .tmp 5] [22, 25]) (bodyOf Try.f25) (initE 0 [.arr x1.length (lm (ik .i64) x1), .arr x2.length (lm (ik .i64) x2)]) [] []) (shape_Broadcast fu x1 x2) e25 := by
  unfold shape_Broadcast e25
  conv => arg 1; simp (disch := first | assumption | decide | with_unfolding_all rfl | omega | (simp only [LN] <;> omega) | (simp only [RO, OF])) only [bodyOf, Try.f25, RR, RM, LN, TT, d25_at, ↓reduceIte, Nat.reduceEqDiff, Nat.reduceLT, Nat.reduceLeDiff, Nat.reduceAdd, Nat.reduceSub, Nat.reduceMul, Nat.reduceMod, Nat.reduceDiv, Nat.reduceBEq]
  refine J.joinS (fun (t : List (List Int)) => ([(0, .arr x1.length (lm (ik .i64) x1)), (1, .arr x2.length (lm (ik .i64) x2))], [((0, 19, 0), .sl true true 1 t.length (lm (avl (ik .i64)) t))])) (fun t => shape_Broadcast_k1 fu x1 x2 t) ?_ (fun hj1 => ?_)
  · rintro x3
    show J _ (shape_Broadcast_k1 fu x1 x2 x3) _
    unfold shape_Broadcast_k1
    refine J.joinS (fun (t : (List Int) × (List Int)) => ([(0, .arr t.1.length (lm (ik .i64) t.1)), (1, .arr t.2.length (lm (ik .i64) t.2))], [])) (fun t => shape_Broadcast_k2 fu t.1 t.2) ?_ (fun hj2 => ?_)
    · rintro ⟨x4, x5⟩
      show J _ (shape_Broadcast_k2 fu x4 x5) _
      unfold shape_Broadcast_k2
      refine J.bind fun x6 h1 => ?_
      have e_h1 := H58_0 _ _ h1
      try simp only [NN, NT, LN] at e_h1
      conv => arg 1; simp (disch := first | assumption | decide | with_unfolding_all rfl | omega | (simp only [LN] <;> omega) | (simp only [RO, OF])) only [RR, RM, LN, TT, d25_at, ↓reduceIte, Nat.reduceEqDiff, Nat.reduceLT, Nat.reduceLeDiff, Nat.reduceAdd, Nat.reduceSub, Nat.reduceMul, Nat.reduceMod, Nat.reduceDiv, Nat.reduceBEq, e_h1]
      refine J.joinS (fun (t : List Int) => ([(10, .own (0, 42, 0) 0 t.length t.length)], [((0, 42, 0), .sl true true 1 t.length (lm (ik .i64) t))])) (fun t => shape_Broadcast_k3 fu t) ?_ (fun hj3 => ?_)
      · rintro x7
        show J _ (shape_Broadcast_k3 fu x7) _
        unfold shape_Broadcast_k3
        refine J.eq go_seq ?_
        refine J.bind fun x8 h2 => ?_
        have e_h2 := H15_0 _ _ h2
        try simp only [NN, NT, LN] at e_h2
        conv => arg 1; simp (disch := first | assumption | decide | with_unfolding_all rfl | omega | (simp only [LN] <;> omega) | (simp only [RO, OF])) only [RR, RM, LN, TT, d25_at, ↓reduceIte, Nat.reduceEqDiff, Nat.reduceLT, Nat.reduceLeDiff, Nat.reduceAdd, Nat.reduceSub, Nat.reduceMul, Nat.reduceMod, Nat.reduceDiv, Nat.reduceBEq, e_h1, e_h2]
        refine J.ite (fun h3 => ?_) (fun h3 => ?_)
        · have h3' := decide_eq_true h3
          conv => arg 1; simp (disch := first | assumption | decide | with_unfolding_all rfl | omega | (simp only [LN] <;> omega) | (simp only [RO, OF])) only [RR, RM, LN, TT, d25_at, ↓reduceIte, Nat.reduceEqDiff, Nat.reduceLT, Nat.reduceLeDiff, Nat.reduceAdd, Nat.reduceSub, Nat.reduceMul, Nat.reduceMod, Nat.reduceDiv, Nat.reduceBEq, e_h1, e_h2, h3']
          refine J.eq ret_seq ?_
          refine J.some ?_
          simp (disch := first | assumption | decide | with_unfolding_all rfl | omega | (simp only [LN] <;> omega) | (simp only [RO, OF])) only [RR, RM, LN, TT, d25_at, ↓reduceIte, Nat.reduceEqDiff, Nat.reduceLT, Nat.reduceLeDiff, Nat.reduceAdd, Nat.reduceSub, Nat.reduceMul, Nat.reduceMod, Nat.reduceDiv, Nat.reduceBEq, e_h1, e_h2, h3', FF, LN, NN, NT]
        · have h3' := decide_eq_false h3
          refine J.some ?_
          simp (disch := first | assumption | decide | with_unfolding_all rfl | omega | (simp only [LN] <;> omega) | (simp only [RO, OF])) only [RR, RM, LN, TT, d25_at, ↓reduceIte, Nat.reduceEqDiff, Nat.reduceLT, Nat.reduceLeDiff, Nat.reduceAdd, Nat.reduceSub, Nat.reduceMul, Nat.reduceMod, Nat.reduceDiv, Nat.reduceBEq, e_h1, e_h2, h3', FF, LN, NN, NT]
      · conv => arg 1; simp (disch := first | assumption | decide | with_unfolding_all rfl | omega | (simp only [LN] <;> omega) | (simp only [RO, OF])) only [RR, RM, LN, TT, d25_at, ↓reduceIte, Nat.reduceEqDiff, Nat.reduceLT, Nat.reduceLeDiff, Nat.reduceAdd, Nat.reduceSub, Nat.reduceMul, Nat.reduceMod, Nat.reduceDiv, Nat.reduceBEq, e_h1]
        unfold shape_Broadcast_W1
        refine J.loop (fun (s : (List Int) × Int) => ([(10, .own (0, 42, 0) 0 s.1.length s.1.length), (11, .v (.int .i64 (wk .i64 ((x4.length : Int) - (x5.length : Int))))), (48, .arr x5.length (lm (ik .i64) x5)), (49, .v (.int .i64 (x5.length : Int))), (50, .v (.int .i64 s.2))], [((0, 42, 0), .sl true true 1 s.1.length (lm (ik .i64) s.1))])) (fun next s => shape_Broadcast_L1 fu x4 x5 (fun x11 x12 => next (x11, x12)) s.1 s.2) (s0 := (x6, 0)) ?_ ?_ ?_
        · first | rfl | (simp only [LN, NN, NT])
        · first | (simp (disch := first | assumption | decide | with_unfolding_all rfl | omega | (simp only [LN] <;> omega) | (simp only [RO, OF])) only [RR, ↓reduceIte, Nat.reduceEqDiff, Nat.reduceLT, Nat.reduceLeDiff, Nat.reduceAdd, Nat.reduceSub, Nat.reduceMul, Nat.reduceMod, Nat.reduceDiv, Nat.reduceBEq, LN, NN, NT]; done) | rfl
        rintro next k1 hn1 ⟨x11, x12⟩
        let nx1 : (List Int) → Int → Option ((List Int) × Int) := (fun x11 x12 => next (x11, x12))
        show J _ (shape_Broadcast_L1 fu x4 x5 nx1 x11 x12) _
        unfold shape_Broadcast_L1
        conv => arg 1; simp (disch := first | assumption | decide | with_unfolding_all rfl | omega | (simp only [LN] <;> omega) | (simp only [RO, OF])) only [RR, RM, LN, TT, d25_at, ↓reduceIte, Nat.reduceEqDiff, Nat.reduceLT, Nat.reduceLeDiff, Nat.reduceAdd, Nat.reduceSub, Nat.reduceMul, Nat.reduceMod, Nat.reduceDiv, Nat.reduceBEq, e_h1]
        refine J.eq go_seq ?_
        conv => arg 1; simp (disch := first | assumption | decide | with_unfolding_all rfl | omega | (simp only [LN] <;> omega) | (simp only [RO, OF])) only [RR, RM, LN, TT, d25_at, ↓reduceIte, Nat.reduceEqDiff, Nat.reduceLT, Nat.reduceLeDiff, Nat.reduceAdd, Nat.reduceSub, Nat.reduceMul, Nat.reduceMod, Nat.reduceDiv, Nat.reduceBEq, e_h1]
        refine J.ite (fun h4 => ?_) (fun h4 => ?_)
        · have h4' := decide_eq_true h4
          have h4'' : decide ((x5.length : Int) ≤ x12) = false := decide_eq_false (by omega)
          conv => arg 1; simp (disch := first | assumption | decide | with_unfolding_all rfl | omega | (simp only [LN] <;> omega) | (simp only [RO, OF])) only [RR, RM, LN, TT, d25_at, ↓reduceIte, Nat.reduceEqDiff, Nat.reduceLT, Nat.reduceLeDiff, Nat.reduceAdd, Nat.reduceSub, Nat.reduceMul, Nat.reduceMod, Nat.reduceDiv, Nat.reduceBEq, e_h1, h4'', h4']
          refine J.eq ret_seq ?_
          refine J.eq go_seq ?_
          refine J.at fun x15 h5 h6 h7 => ?_
          refine J.at fun x16 h8 h9 h10 => ?_
          conv => arg 1; simp (disch := first | assumption | decide | with_unfolding_all rfl | omega | (simp only [LN] <;> omega) | (simp only [RO, OF])) only [RR, RM, LN, TT, d25_at, ↓reduceIte, Nat.reduceEqDiff, Nat.reduceLT, Nat.reduceLeDiff, Nat.reduceAdd, Nat.reduceSub, Nat.reduceMul, Nat.reduceMod, Nat.reduceDiv, Nat.reduceBEq, e_h1, h4'', h4', lm_ik h7, lm_ik h10]
          refine J.ite (fun h11 => ?_) (fun h11 => ?_)
          · have h11' := decide_eq_true h11
            refine J.chk fun h12 => ?_
            conv => arg 1; simp (disch := first | assumption | decide | with_unfolding_all rfl | omega | (simp only [LN] <;> omega) | (simp only [RO, OF])) only [RR, RM, LN, TT, d25_at, ↓reduceIte, Nat.reduceEqDiff, Nat.reduceLT, Nat.reduceLeDiff, Nat.reduceAdd, Nat.reduceSub, Nat.reduceMul, Nat.reduceMod, Nat.reduceDiv, Nat.reduceBEq, e_h1, h4'', h4', lm_ik h7, lm_ik h10, h11']
            refine J.eq ret_seq ?_
            conv => arg 1; simp (disch := first | assumption | decide | with_unfolding_all rfl | omega | (simp only [LN] <;> omega) | (simp only [RO, OF])) only [RR, RM, LN, TT, d25_at, ↓reduceIte, Nat.reduceEqDiff, Nat.reduceLT, Nat.reduceLeDiff, Nat.reduceAdd, Nat.reduceSub, Nat.reduceMul, Nat.reduceMod, Nat.reduceDiv, Nat.reduceBEq, e_h1, h4'', h4', lm_ik h7, lm_ik h10, h11']
            refine J.next (s := (x11.set (wk .i64 ((wk .i64 ((x4.length : Int) - (x5.length : Int))) + x12)).toNat x15, wk .i64 (x12 + 1))) hn1 ?_ ?_
            · first | rfl | (simp only [LN, NN, NT])
            · first | (simp (disch := first | assumption | decide | with_unfolding_all rfl | omega | (simp only [LN] <;> omega) | (simp only [RO, OF])) only [RR, ↓reduceIte, Nat.reduceEqDiff, Nat.reduceLT, Nat.reduceLeDiff, Nat.reduceAdd, Nat.reduceSub, Nat.reduceMul, Nat.reduceMod, Nat.reduceDiv, Nat.reduceBEq, LN, NN, NT]; done) | rfl
          · have h11' := decide_eq_false h11
            conv => arg 1; simp (disch := first | assumption | decide | with_unfolding_all rfl | omega | (simp only [LN] <;> omega) | (simp only [RO, OF])) only [RR, RM, LN, TT, d25_at, ↓reduceIte, Nat.reduceEqDiff, Nat.reduceLT, Nat.reduceLeDiff, Nat.reduceAdd, Nat.reduceSub, Nat.reduceMul, Nat.reduceMod, Nat.reduceDiv, Nat.reduceBEq, e_h1, h4'', h4', lm_ik h7, lm_ik h10, h11']
            refine J.eq go_seq ?_
            conv => arg 1; simp (disch := first | assumption | decide | with_unfolding_all rfl | omega | (simp only [LN] <;> omega) | (simp only [RO, OF])) only [RR, RM, LN, TT, d25_at, ↓reduceIte, Nat.reduceEqDiff, Nat.reduceLT, Nat.reduceLeDiff, Nat.reduceAdd, Nat.reduceSub, Nat.reduceMul, Nat.reduceMod, Nat.reduceDiv, Nat.reduceBEq, e_h1, h4'', h4', lm_ik h7, lm_ik h10, h11']
            refine J.ite (fun h13 => ?_) (fun h13 => ?_)
            · have h13' := decide_eq_true h13
              conv => arg 1; simp (disch := first | assumption | decide | with_unfolding_all rfl | omega | (simp only [LN] <;> omega) | (simp only [RO, OF])) only [RR, RM, LN, TT, d25_at, ↓reduceIte, Nat.reduceEqDiff, Nat.reduceLT, Nat.reduceLeDiff, Nat.reduceAdd, Nat.reduceSub, Nat.reduceMul, Nat.reduceMod, Nat.reduceDiv, Nat.reduceBEq, e_h1, h4'', h4', lm_ik h7, lm_ik h10, h11', h13']
              refine J.eq ret_seq ?_
              conv => arg 1; simp (disch := first | assumption | decide | with_unfolding_all rfl | omega | (simp only [LN] <;> omega) | (simp only [RO, OF])) only [RR, RM, LN, TT, d25_at, ↓reduceIte, Nat.reduceEqDiff, Nat.reduceLT, Nat.reduceLeDiff, Nat.reduceAdd, Nat.reduceSub, Nat.reduceMul, Nat.reduceMod, Nat.reduceDiv, Nat.reduceBEq, e_h1, h4'', h4', lm_ik h7, lm_ik h10, h11', h13']
              refine J.eq ret_seq ?_
              conv => arg 1; simp (disch := first | assumption | decide | with_unfolding_all rfl | omega | (simp only [LN] <;> omega) | (simp only [RO, OF])) only [RR, RM, LN, TT, d25_at, ↓reduceIte, Nat.reduceEqDiff, Nat.reduceLT, Nat.reduceLeDiff, Nat.reduceAdd, Nat.reduceSub, Nat.reduceMul, Nat.reduceMod, Nat.reduceDiv, Nat.reduceBEq, e_h1, h4'', h4', lm_ik h7, lm_ik h10, h11', h13']
              refine J.next (s := (x11, wk .i64 (x12 + 1))) hn1 ?_ ?_
              · first | rfl | (simp only [LN, NN, NT])
              · first | (simp (disch := first | assumption | decide | with_unfolding_all rfl | omega | (simp only [LN] <;> omega) | (simp only [RO, OF])) only [RR, ↓reduceIte, Nat.reduceEqDiff, Nat.reduceLT, Nat.reduceLeDiff, Nat.reduceAdd, Nat.reduceSub, Nat.reduceMul, Nat.reduceMod, Nat.reduceDiv, Nat.reduceBEq, LN, NN, NT]; done) | rfl
            · have h13' := decide_eq_false h13
              conv => arg 1; simp (disch := first | assumption | decide | with_unfolding_all rfl | omega | (simp only [LN] <;> omega) | (simp only [RO, OF])) only [RR, RM, LN, TT, d25_at, ↓reduceIte, Nat.reduceEqDiff, Nat.reduceLT, Nat.reduceLeDiff, Nat.reduceAdd, Nat.reduceSub, Nat.reduceMul, Nat.reduceMod, Nat.reduceDiv, Nat.reduceBEq, e_h1, h4'', h4', lm_ik h7, lm_ik h10, h11', h13']
              refine J.eq ret_seq ?_
              conv => arg 1; simp (disch := first | assumption | decide | with_unfolding_all rfl | omega | (simp only [LN] <;> omega) | (simp only [RO, OF])) only [RR, RM, LN, TT, d25_at, ↓reduceIte, Nat.reduceEqDiff, Nat.reduceLT, Nat.reduceLeDiff, Nat.reduceAdd, Nat.reduceSub, Nat.reduceMul, Nat.reduceMod, Nat.reduceDiv, Nat.reduceBEq, e_h1, h4'', h4', lm_ik h7, lm_ik h10, h11', h13']
              refine J.ite (fun h14 => ?_) (fun h14 => ?_)
              · have h14' := decide_eq_true h14
                conv => arg 1; simp (disch := first | assumption | decide | with_unfolding_all rfl | omega | (simp only [LN] <;> omega) | (simp only [RO, OF])) only [RR, RM, LN, TT, d25_at, ↓reduceIte, Nat.reduceEqDiff, Nat.reduceLT, Nat.reduceLeDiff, Nat.reduceAdd, Nat.reduceSub, Nat.reduceMul, Nat.reduceMod, Nat.reduceDiv, Nat.reduceBEq, e_h1, h4'', h4', lm_ik h7, lm_ik h10, h11', h13', h14']
                refine J.eq ret_seq ?_
                conv => arg 1; simp (disch := first | assumption | decide | with_unfolding_all rfl | omega | (simp only [LN] <;> omega) | (simp only [RO, OF])) only [RR, RM, LN, TT, d25_at, ↓reduceIte, Nat.reduceEqDiff, Nat.reduceLT, Nat.reduceLeDiff, Nat.reduceAdd, Nat.reduceSub, Nat.reduceMul, Nat.reduceMod, Nat.reduceDiv, Nat.reduceBEq, e_h1, h4'', h4', lm_ik h7, lm_ik h10, h11', h13', h14']
                refine J.next (s := (x11, wk .i64 (x12 + 1))) hn1 ?_ ?_
                · first | rfl | (simp only [LN, NN, NT])
                · first | (simp (disch := first | assumption | decide | with_unfolding_all rfl | omega | (simp only [LN] <;> omega) | (simp only [RO, OF])) only [RR, ↓reduceIte, Nat.reduceEqDiff, Nat.reduceLT, Nat.reduceLeDiff, Nat.reduceAdd, Nat.reduceSub, Nat.reduceMul, Nat.reduceMod, Nat.reduceDiv, Nat.reduceBEq, LN, NN, NT]; done) | rfl
              · have h14' := decide_eq_false h14
                refine J.some ?_
                simp (disch := first | assumption | decide | with_unfolding_all rfl | omega | (simp only [LN] <;> omega) | (simp only [RO, OF])) only [RR, RM, LN, TT, d25_at, ↓reduceIte, Nat.reduceEqDiff, Nat.reduceLT, Nat.reduceLeDiff, Nat.reduceAdd, Nat.reduceSub, Nat.reduceMul, Nat.reduceMod, Nat.reduceDiv, Nat.reduceBEq, e_h1, h4'', h4', lm_ik h7, lm_ik h10, h11', h13', h14', FF, LN, NN, NT]
        · have h4' := decide_eq_false h4
          have h4'' : decide ((x5.length : Int) ≤ x12) = true := decide_eq_true (by omega)
          conv => arg 1; simp (disch := first | assumption | decide | with_unfolding_all rfl | omega | (simp only [LN] <;> omega) | (simp only [RO, OF])) only [RR, RM, LN, TT, d25_at, ↓reduceIte, Nat.reduceEqDiff, Nat.reduceLT, Nat.reduceLeDiff, Nat.reduceAdd, Nat.reduceSub, Nat.reduceMul, Nat.reduceMod, Nat.reduceDiv, Nat.reduceBEq, e_h1, h4'', h4']
          refine J.jmp (t := x11) hj3 ?_ ?_
          · first | rfl | (simp only [LN, NN, NT])
          · first | (simp (disch := first | assumption | decide | with_unfolding_all rfl | omega | (simp only [LN] <;> omega) | (simp only [RO, OF])) only [RR, ↓reduceIte, Nat.reduceEqDiff, Nat.reduceLT, Nat.reduceLeDiff, Nat.reduceAdd, Nat.reduceSub, Nat.reduceMul, Nat.reduceMod, Nat.reduceDiv, Nat.reduceBEq, LN, NN, NT]; done) | rfl
    · conv => arg 1; simp (disch := first | assumption | decide | with_unfolding_all rfl | omega | (simp only [LN] <;> omega) | (simp only [RO, OF])) only [RR, RM, LN, TT, d25_at, ↓reduceIte, Nat.reduceEqDiff, Nat.reduceLT, Nat.reduceLeDiff, Nat.reduceAdd, Nat.reduceSub, Nat.reduceMul, Nat.reduceMod, Nat.reduceDiv, Nat.reduceBEq]
      refine J.ite (fun h15 => ?_) (fun h15 => ?_)
      · have h15' := decide_eq_true h15
        have h15'' : decide ((x2.length : Int) ≤ (x1.length : Int)) = false := decide_eq_false (by omega)
        conv => arg 1; simp (disch := first | assumption | decide | with_unfolding_all rfl | omega | (simp only [LN] <;> omega) | (simp only [RO, OF])) only [RR, RM, LN, TT, d25_at, ↓reduceIte, Nat.reduceEqDiff, Nat.reduceLT, Nat.reduceLeDiff, Nat.reduceAdd, Nat.reduceSub, Nat.reduceMul, Nat.reduceMod, Nat.reduceDiv, Nat.reduceBEq, h15'', h15']
        refine J.jmp (t := (x2, x1)) hj2 ?_ ?_
        · first | rfl | (simp only [LN, NN, NT])
        · first | (simp (disch := first | assumption | decide | with_unfolding_all rfl | omega | (simp only [LN] <;> omega) | (simp only [RO, OF])) only [RR, ↓reduceIte, Nat.reduceEqDiff, Nat.reduceLT, Nat.reduceLeDiff, Nat.reduceAdd, Nat.reduceSub, Nat.reduceMul, Nat.reduceMod, Nat.reduceDiv, Nat.reduceBEq, LN, NN, NT]; done) | rfl
      · have h15' := decide_eq_false h15
        have h15'' : decide ((x2.length : Int) ≤ (x1.length : Int)) = true := decide_eq_true (by omega)
        conv => arg 1; simp (disch := first | assumption | decide | with_unfolding_all rfl | omega | (simp only [LN] <;> omega) | (simp only [RO, OF])) only [RR, RM, LN, TT, d25_at, ↓reduceIte, Nat.reduceEqDiff, Nat.reduceLT, Nat.reduceLeDiff, Nat.reduceAdd, Nat.reduceSub, Nat.reduceMul, Nat.reduceMod, Nat.reduceDiv, Nat.reduceBEq, h15'', h15']
        refine J.jmp (t := (x1, x2)) hj2 ?_ ?_
        · first | rfl | (simp only [LN, NN, NT])
        · first | (simp (disch := first | assumption | decide | with_unfolding_all rfl | omega | (simp only [LN] <;> omega) | (simp only [RO, OF])) only [RR, ↓reduceIte, Nat.reduceEqDiff, Nat.reduceLT, Nat.reduceLeDiff, Nat.reduceAdd, Nat.reduceSub, Nat.reduceMul, Nat.reduceMod, Nat.reduceDiv, Nat.reduceBEq, LN, NN, NT]; done) | rfl
  · conv => arg 1; simp (disch := first | assumption | decide | with_unfolding_all rfl | omega | (simp only [LN] <;> omega) | (simp only [RO, OF])) only [RR, RM, LN, TT, d25_at, ↓reduceIte, Nat.reduceEqDiff, Nat.reduceLT, Nat.reduceLeDiff, Nat.reduceAdd, Nat.reduceSub, Nat.reduceMul, Nat.reduceMod, Nat.reduceDiv, Nat.reduceBEq]
    unfold shape_Broadcast_W2
    refine J.loop (fun (s : (List (List Int)) × Int) => ([(0, .arr x1.length (lm (ik .i64) x1)), (1, .arr x2.length (lm (ik .i64) x2)), (19, .own (0, 19, 0) 0 s.1.length s.1.length), (20, .v (.int .i64 ((2 : Nat) : Int))), (21, .v (.int .i64 s.2))], [((0, 19, 0), .sl true true 1 s.1.length (lm (avl (ik .i64)) s.1))])) (fun next s => shape_Broadcast_L2 fu x1 x2 (fun x19 x20 => next (x19, x20)) s.1 s.2) (s0 := ([x1, x2], 0)) ?_ ?_ ?_
    · first | rfl | (simp only [LN, NN, NT])
    · first | (simp (disch := first | assumption | decide | with_unfolding_all rfl | omega | (simp only [LN] <;> omega) | (simp only [RO, OF])) only [RR, ↓reduceIte, Nat.reduceEqDiff, Nat.reduceLT, Nat.reduceLeDiff, Nat.reduceAdd, Nat.reduceSub, Nat.reduceMul, Nat.reduceMod, Nat.reduceDiv, Nat.reduceBEq, LN, NN, NT]; done) | rfl
    rintro next k2 hn2 ⟨x19, x20⟩
    let nx2 : (List (List Int)) → Int → Option ((List Int) × Int) := (fun x19 x20 => next (x19, x20))
    show J _ (shape_Broadcast_L2 fu x1 x2 nx2 x19 x20) _
    unfold shape_Broadcast_L2
    conv => arg 1; simp (disch := first | assumption | decide | with_unfolding_all rfl | omega | (simp only [LN] <;> omega) | (simp only [RO, OF])) only [RR, RM, LN, TT, d25_at, ↓reduceIte, Nat.reduceEqDiff, Nat.reduceLT, Nat.reduceLeDiff, Nat.reduceAdd, Nat.reduceSub, Nat.reduceMul, Nat.reduceMod, Nat.reduceDiv, Nat.reduceBEq]
    refine J.eq go_seq ?_
    conv => arg 1; simp (disch := first | assumption | decide | with_unfolding_all rfl | omega | (simp only [LN] <;> omega) | (simp only [RO, OF])) only [RR, RM, LN, TT, d25_at, ↓reduceIte, Nat.reduceEqDiff, Nat.reduceLT, Nat.reduceLeDiff, Nat.reduceAdd, Nat.reduceSub, Nat.reduceMul, Nat.reduceMod, Nat.reduceDiv, Nat.reduceBEq]
    refine J.ite (fun h16 => ?_) (fun h16 => ?_)
    · have h16' := decide_eq_true h16
      have h16'' : decide (((2 : Nat) : Int) ≤ x20) = false := decide_eq_false (by omega)
      conv => arg 1; simp (disch := first | assumption | decide | with_unfolding_all rfl | omega | (simp only [LN] <;> omega) | (simp only [RO, OF])) only [RR, RM, LN, TT, d25_at, ↓reduceIte, Nat.reduceEqDiff, Nat.reduceLT, Nat.reduceLeDiff, Nat.reduceAdd, Nat.reduceSub, Nat.reduceMul, Nat.reduceMod, Nat.reduceDiv, Nat.reduceBEq, h16'', h16']
      refine J.eq ret_seq ?_
      refine J.eq go_seq ?_
      refine J.at fun x23 h17 h18 h19 => ?_
      refine J.bind fun x24 h20 => ?_
      have e_h20 := H15_0 _ _ h20
      try simp only [NN, NT, LN] at e_h20
      conv => arg 1; simp (disch := first | assumption | decide | with_unfolding_all rfl | omega | (simp only [LN] <;> omega) | (simp only [RO, OF])) only [RR, RM, LN, TT, d25_at, ↓reduceIte, Nat.reduceEqDiff, Nat.reduceLT, Nat.reduceLeDiff, Nat.reduceAdd, Nat.reduceSub, Nat.reduceMul, Nat.reduceMod, Nat.reduceDiv, Nat.reduceBEq, h16'', h16', lm_avl h19, e_h20]
      refine J.ite (fun h21 => ?_) (fun h21 => ?_)
      · have h21' := decide_eq_true h21
        conv => arg 1; simp (disch := first | assumption | decide | with_unfolding_all rfl | omega | (simp only [LN] <;> omega) | (simp only [RO, OF])) only [RR, RM, LN, TT, d25_at, ↓reduceIte, Nat.reduceEqDiff, Nat.reduceLT, Nat.reduceLeDiff, Nat.reduceAdd, Nat.reduceSub, Nat.reduceMul, Nat.reduceMod, Nat.reduceDiv, Nat.reduceBEq, h16'', h16', lm_avl h19, e_h20, h21']
        refine J.eq ret_seq ?_
        conv => arg 1; simp (disch := first | assumption | decide | with_unfolding_all rfl | omega | (simp only [LN] <;> omega) | (simp only [RO, OF])) only [RR, RM, LN, TT, d25_at, ↓reduceIte, Nat.reduceEqDiff, Nat.reduceLT, Nat.reduceLeDiff, Nat.reduceAdd, Nat.reduceSub, Nat.reduceMul, Nat.reduceMod, Nat.reduceDiv, Nat.reduceBEq, h16'', h16', lm_avl h19, e_h20, h21']
        refine J.next (s := (x19, wk .i64 (x20 + 1))) hn2 ?_ ?_
        · first | rfl | (simp only [LN, NN, NT])
        · first | (simp (disch := first | assumption | decide | with_unfolding_all rfl | omega | (simp only [LN] <;> omega) | (simp only [RO, OF])) only [RR, ↓reduceIte, Nat.reduceEqDiff, Nat.reduceLT, Nat.reduceLeDiff, Nat.reduceAdd, Nat.reduceSub, Nat.reduceMul, Nat.reduceMod, Nat.reduceDiv, Nat.reduceBEq, LN, NN, NT]; done) | rfl
      · have h21' := decide_eq_false h21
        refine J.some ?_
        simp (disch := first | assumption | decide | with_unfolding_all rfl | omega | (simp only [LN] <;> omega) | (simp only [RO, OF])) only [RR, RM, LN, TT, d25_at, ↓reduceIte, Nat.reduceEqDiff, Nat.reduceLT, Nat.reduceLeDiff, Nat.reduceAdd, Nat.reduceSub, Nat.reduceMul, Nat.reduceMod, Nat.reduceDiv, Nat.reduceBEq, h16'', h16', lm_avl h19, e_h20, h21', FF, LN, NN, NT]
    · have h16' := decide_eq_false h16
      have h16'' : decide (((2 : Nat) : Int) ≤ x20) = true := decide_eq_true (by omega)
      conv => arg 1; simp (disch := first | assumption | decide | with_unfolding_all rfl | omega | (simp only [LN] <;> omega) | (simp only [RO, OF])) only [RR, RM, LN, TT, d25_at, ↓reduceIte, Nat.reduceEqDiff, Nat.reduceLT, Nat.reduceLeDiff, Nat.reduceAdd, Nat.reduceSub, Nat.reduceMul, Nat.reduceMod, Nat.reduceDiv, Nat.reduceBEq, h16'', h16']
      refine J.jmp (t := x19) hj1 ?_ ?_
      · first | rfl | (simp only [LN, NN, NT])
      · first | (simp (disch := first | assumption | decide | with_unfolding_all rfl | omega | (simp only [LN] <;> omega) | (simp only [RO, OF])) only [RR, ↓reduceIte, Nat.reduceEqDiff, Nat.reduceLT, Nat.reduceLeDiff, Nat.reduceAdd, Nat.reduceSub, Nat.reduceMul, Nat.reduceMod, Nat.reduceDiv, Nat.reduceBEq, LN, NN, NT]; done) | rfl
noncomputable def t25 (fu : Nat) : CallP := orE 15 (mkC (fun (t : List Int) => ([.arr t.length (lm (ik .i64) t)] : List AV)) (fun t => shape_Size fu t) e15) (orE 58 (mkC (fun (t : List Int) => ([.arr t.length (lm (ik .i64) t)] : List AV)) (fun t => slices_Clone_int fu t) e58) (noP))
theorem t25_ok (fu : Nat) : CpOK Try.prog (t25 fu ) := orE_ok (orE_ok (noP_ok) (mkC_ok (fun t b h => ok58 fu t  b h))) (mkC_ok (fun t b h => ok15 fu t  b h))
theorem ok25 (fu : Nat) (x1 : List Int) (x2 : List Int) (r) (h : shape_Broadcast fu x1 x2 = some r) : PureOK Try.prog 25 [.arr x1.length (lm (ik .i64) x1), .arr x2.length (lm (ik .i64) x2)] (e25 r) :=
  pure_J mixed (cp := t25 fu ) (t25_ok fu  ) noI_ok i25 (w25 _ fu x1 x2  (fun a0 r h => orE_hit (mkC_at (a := a0) (by intro a b h; first | (exact rfl) | (simp only [INJ] at h; first | exact h | (simp_all [Prod.ext_iff]) )) h)) (fun a0 r h => orE_miss (by decide) (orE_hit (mkC_at (a := a0) (by intro a b h; first | (exact rfl) | (simp only [INJ] at h; first | exact h | (simp_all [Prod.ext_iff]) )) h)))) h
/-! 60: slices.Equal[[]int,int] -/
def d60 : List (Nat × List Nat) := [(0, [4]), (0, [0, 1, 12, 13]), (0, [6, 7, 8, 9]), (0, []), (0, []), (0, []), (0, [11]), (0, []), (0, []), (0, []), (0, [15]), (0, []), (9, [5, 16, 17, 18, 19, 20, 21, 22, 23]), (0, []), (0, []), (0, []), (0, [25]), (0, []), (0, [])]
def d60_at := And.intro (show d60.getD 0 (0, []) = (0, [4]) from rfl) <| And.intro (show d60.getD 1 (0, []) = (0, [0, 1, 12, 13]) from rfl) <| And.intro (show d60.getD 2 (0, []) = (0, [6, 7, 8, 9]) from rfl) <| And.intro (show d60.getD 3 (0, []) = (0, []) from rfl) <| And.intro (show d60.getD 4 (0, []) = (0, []) from rfl) <| And.intro (show d60.getD 5 (0, []) = (0, []) from rfl) <| And.intro (show d60.getD 6 (0, []) = (0, [11]) from rfl) <| And.intro (show d60.getD 7 (0, []) = (0, []) from rfl) <| And.intro (show d60.getD 8 (0, []) = (0, []) from rfl) <| And.intro (show d60.getD 9 (0, []) = (0, []) from rfl) <| And.intro (show d60.getD 10 (0, []) = (0, [15]) from rfl) <| And.intro (show d60.getD 11 (0, []) = (0, []) from rfl) <| And.intro (show d60.getD 12 (0, []) = (9, [5, 16, 17, 18, 19, 20, 21, 22, 23]) from rfl) <| And.intro (show d60.getD 13 (0, []) = (0, []) from rfl) <| And.intro (show d60.getD 14 (0, []) = (0, []) from rfl) <| And.intro (show d60.getD 15 (0, []) = (0, []) from rfl) <| And.intro (show d60.getD 16 (0, []) = (0, [25]) from rfl) <| And.intro (show d60.getD 17 (0, []) = (0, []) from rfl) <| (show d60.getD 18 (0, []) = (0, []) from rfl)
theorem i60 : finfo Try.prog 60 d60 = some ⟨bodyOf Try.f60, [.tmp 4], [4]⟩ := finfo_at Try.func60 rfl (by kernel_rfl) (by kernel_rfl)
def e60 : Bool → AV := fun r => .v (.bool r)
set_option maxHeartbeats 1000000 in
theorem w60 (cp : CallP) (fu : Nat) (x1 : List Int) (x2 : List Int) : J (go Try.prog noC cp noI 0 [] d60 fu (fin Try.prog [.tmp 4] [4]) (bodyOf Try.f60) (initE 0 [.arr x1.length (lm (ik .i64) x1), .arr x2.length (lm (ik .i64) x2)]) [] []) (slices_Equal_int fu x1 x2) e60 := by
  unfold slices_Equal_int e60
  conv => arg 1; simp (disch := first | assumption | decide | with_unfolding_all rfl | omega | (simp only [LN] <;> omega) | (simp only [RO, OF])) only [bodyOf, Try.f60, RR, RM, LN, TT, d60_at, ↓reduceIte, Nat.reduceEqDiff, Nat.reduceLT, Nat.reduceLeDiff, Nat.reduceAdd, Nat.reduceSub, Nat.reduceMul, Nat.reduceMod, Nat.reduceDiv, Nat.reduceBEq]
  refine J.eq go_seq ?_
  conv => arg 1; simp (disch := first | assumption | decide | with_unfolding_all rfl | omega | (simp only [LN] <;> omega) | (simp only [RO, OF])) only [RR, RM, LN, TT, d60_at, ↓reduceIte, Nat.reduceEqDiff, Nat.reduceLT, Nat.reduceLeDiff, Nat.reduceAdd, Nat.reduceSub, Nat.reduceMul, Nat.reduceMod, Nat.reduceDiv, Nat.reduceBEq]
  refine J.ite (fun h1 => ?_) (fun h1 => ?_)
  · have h1' := decide_eq_true h1
    conv => arg 1; simp (disch := first | assumption | decide | with_unfolding_all rfl | omega | (simp only [LN] <;> omega) | (simp only [RO, OF])) only [RR, RM, LN, TT, d60_at, ↓reduceIte, Nat.reduceEqDiff, Nat.reduceLT, Nat.reduceLeDiff, Nat.reduceAdd, Nat.reduceSub, Nat.reduceMul, Nat.reduceMod, Nat.reduceDiv, Nat.reduceBEq, h1']
    refine J.eq ret_seq ?_
    refine J.eq go_seq ?_
    conv => arg 1; simp (disch := first | assumption | decide | with_unfolding_all rfl | omega | (simp only [LN] <;> omega) | (simp only [RO, OF])) only [RR, RM, LN, TT, d60_at, ↓reduceIte, Nat.reduceEqDiff, Nat.reduceLT, Nat.reduceLeDiff, Nat.reduceAdd, Nat.reduceSub, Nat.reduceMul, Nat.reduceMod, Nat.reduceDiv, Nat.reduceBEq, h1']
    unfold slices_Equal_int_W1
    refine J.loop (fun (s : Int) => ([(0, .arr x1.length (lm (ik .i64) x1)), (1, .arr x2.length (lm (ik .i64) x2)), (12, .v (.int .i64 (x1.length : Int))), (13, .v (.int .i64 s))], [])) (fun next s => slices_Equal_int_L1 fu x1 x2 next s) (s0 := 0) ?_ ?_ ?_
    · first | rfl | (simp only [LN, NN, NT])
    · first | (simp (disch := first | assumption | decide | with_unfolding_all rfl | omega | (simp only [LN] <;> omega) | (simp only [RO, OF])) only [RR, ↓reduceIte, Nat.reduceEqDiff, Nat.reduceLT, Nat.reduceLeDiff, Nat.reduceAdd, Nat.reduceSub, Nat.reduceMul, Nat.reduceMod, Nat.reduceDiv, Nat.reduceBEq, LN, NN, NT]; done) | rfl
    rintro nx1 k1 hn1 x5
    show J _ (slices_Equal_int_L1 fu x1 x2 nx1 x5) _
    unfold slices_Equal_int_L1
    conv => arg 1; simp (disch := first | assumption | decide | with_unfolding_all rfl | omega | (simp only [LN] <;> omega) | (simp only [RO, OF])) only [RR, RM, LN, TT, d60_at, ↓reduceIte, Nat.reduceEqDiff, Nat.reduceLT, Nat.reduceLeDiff, Nat.reduceAdd, Nat.reduceSub, Nat.reduceMul, Nat.reduceMod, Nat.reduceDiv, Nat.reduceBEq, h1']
    refine J.eq go_seq ?_
    conv => arg 1; simp (disch := first | assumption | decide | with_unfolding_all rfl | omega | (simp only [LN] <;> omega) | (simp only [RO, OF])) only [RR, RM, LN, TT, d60_at, ↓reduceIte, Nat.reduceEqDiff, Nat.reduceLT, Nat.reduceLeDiff, Nat.reduceAdd, Nat.reduceSub, Nat.reduceMul, Nat.reduceMod, Nat.reduceDiv, Nat.reduceBEq, h1']
    refine J.ite (fun h2 => ?_) (fun h2 => ?_)
    · have h2' := decide_eq_true h2
      have h2'' : decide ((x1.length : Int) ≤ x5) = false := decide_eq_false (by omega)
      conv => arg 1; simp (disch := first | assumption | decide | with_unfolding_all rfl | omega | (simp only [LN] <;> omega) | (simp only [RO, OF])) only [RR, RM, LN, TT, d60_at, ↓reduceIte, Nat.reduceEqDiff, Nat.reduceLT, Nat.reduceLeDiff, Nat.reduceAdd, Nat.reduceSub, Nat.reduceMul, Nat.reduceMod, Nat.reduceDiv, Nat.reduceBEq, h1', h2'', h2']
      refine J.eq ret_seq ?_
      refine J.eq go_seq ?_
      refine J.at fun x8 h3 h4 h5 => ?_
      refine J.at fun x9 h6 h7 h8 => ?_
      conv => arg 1; simp (disch := first | assumption | decide | with_unfolding_all rfl | omega | (simp only [LN] <;> omega) | (simp only [RO, OF])) only [RR, RM, LN, TT, d60_at, ↓reduceIte, Nat.reduceEqDiff, Nat.reduceLT, Nat.reduceLeDiff, Nat.reduceAdd, Nat.reduceSub, Nat.reduceMul, Nat.reduceMod, Nat.reduceDiv, Nat.reduceBEq, h1', h2'', h2', lm_ik h5, lm_ik h8]
      refine J.ite (fun h9 => ?_) (fun h9 => ?_)
      · have h9' := decide_eq_true h9
        conv => arg 1; simp (disch := first | assumption | decide | with_unfolding_all rfl | omega | (simp only [LN] <;> omega) | (simp only [RO, OF])) only [RR, RM, LN, TT, d60_at, ↓reduceIte, Nat.reduceEqDiff, Nat.reduceLT, Nat.reduceLeDiff, Nat.reduceAdd, Nat.reduceSub, Nat.reduceMul, Nat.reduceMod, Nat.reduceDiv, Nat.reduceBEq, h1', h2'', h2', lm_ik h5, lm_ik h8, h9']
        refine J.eq ret_seq ?_
        conv => arg 1; simp (disch := first | assumption | decide | with_unfolding_all rfl | omega | (simp only [LN] <;> omega) | (simp only [RO, OF])) only [RR, RM, LN, TT, d60_at, ↓reduceIte, Nat.reduceEqDiff, Nat.reduceLT, Nat.reduceLeDiff, Nat.reduceAdd, Nat.reduceSub, Nat.reduceMul, Nat.reduceMod, Nat.reduceDiv, Nat.reduceBEq, h1', h2'', h2', lm_ik h5, lm_ik h8, h9']
        refine J.next (s := wk .i64 (x5 + 1)) hn1 ?_ ?_
        · first | rfl | (simp only [LN, NN, NT])
        · first | (simp (disch := first | assumption | decide | with_unfolding_all rfl | omega | (simp only [LN] <;> omega) | (simp only [RO, OF])) only [RR, ↓reduceIte, Nat.reduceEqDiff, Nat.reduceLT, Nat.reduceLeDiff, Nat.reduceAdd, Nat.reduceSub, Nat.reduceMul, Nat.reduceMod, Nat.reduceDiv, Nat.reduceBEq, LN, NN, NT]; done) | rfl
      · have h9' := decide_eq_false h9
        refine J.some ?_
        simp (disch := first | assumption | decide | with_unfolding_all rfl | omega | (simp only [LN] <;> omega) | (simp only [RO, OF])) only [RR, RM, LN, TT, d60_at, ↓reduceIte, Nat.reduceEqDiff, Nat.reduceLT, Nat.reduceLeDiff, Nat.reduceAdd, Nat.reduceSub, Nat.reduceMul, Nat.reduceMod, Nat.reduceDiv, Nat.reduceBEq, h1', h2'', h2', lm_ik h5, lm_ik h8, h9', FF, LN, NN, NT]
    · have h2' := decide_eq_false h2
      have h2'' : decide ((x1.length : Int) ≤ x5) = true := decide_eq_true (by omega)
      conv => arg 1; simp (disch := first | assumption | decide | with_unfolding_all rfl | omega | (simp only [LN] <;> omega) | (simp only [RO, OF])) only [RR, RM, LN, TT, d60_at, ↓reduceIte, Nat.reduceEqDiff, Nat.reduceLT, Nat.reduceLeDiff, Nat.reduceAdd, Nat.reduceSub, Nat.reduceMul, Nat.reduceMod, Nat.reduceDiv, Nat.reduceBEq, h1', h2'', h2']
      refine J.eq ret_seq ?_
      refine J.some ?_
      simp (disch := first | assumption | decide | with_unfolding_all rfl | omega | (simp only [LN] <;> omega) | (simp only [RO, OF])) only [RR, RM, LN, TT, d60_at, ↓reduceIte, Nat.reduceEqDiff, Nat.reduceLT, Nat.reduceLeDiff, Nat.reduceAdd, Nat.reduceSub, Nat.reduceMul, Nat.reduceMod, Nat.reduceDiv, Nat.reduceBEq, h1', h2'', h2', FF, LN, NN, NT]
  · have h1' := decide_eq_false h1
    refine J.some ?_
    simp (disch := first | assumption | decide | with_unfolding_all rfl | omega | (simp only [LN] <;> omega) | (simp only [RO, OF])) only [RR, RM, LN, TT, d60_at, ↓reduceIte, Nat.reduceEqDiff, Nat.reduceLT, Nat.reduceLeDiff, Nat.reduceAdd, Nat.reduceSub, Nat.reduceMul, Nat.reduceMod, Nat.reduceDiv, Nat.reduceBEq, h1', FF, LN, NN, NT]
noncomputable def t60 (fu : Nat) : CallP := noP
theorem t60_ok (fu : Nat) : CpOK Try.prog (t60 fu ) := noP_ok
theorem ok60 (fu : Nat) (x1 : List Int) (x2 : List Int) (r) (h : slices_Equal_int fu x1 x2 = some r) : PureOK Try.prog 60 [.arr x1.length (lm (ik .i64) x1), .arr x2.length (lm (ik .i64) x2)] (e60 r) :=
  pure_J mixed (cp := t60 fu ) (t60_ok fu  ) noI_ok i60 (w60 _ fu x1 x2  ) h
/-! 27: lattice/shape.From -/
def d27 : List (Nat × List Nat) := [(0, [6, 7]), (0, [0, 14, 65, 66, 67]), (0, [8, 18, 19, 20, 21, 22]), (0, [16, 17]), (0, [23]), (0, []), (0, [25]), (0, []), (0, [9, 10, 26, 27, 28, 29, 30]), (0, []), (0, [31]), (0, []), (0, [33]), (0, []), (0, [11, 34, 35, 36, 37, 38, 39]), (0, []), (0, [12, 13, 40, 41, 42, 43, 44, 45, 46]), (0, []), (0, []), (0, []), (0, [2, 48, 49, 50, 51, 52, 53, 1000000014]), (0, []), (0, [54]), (0, []), (0, [56]), (0, []), (0, [1, 13, 57, 58, 59, 60, 61, 62, 63]), (0, []), (0, []), (0, []), (0, [64]), (0, []), (0, []), (0, []), (0, [69, 70, 71]), (0, []), (0, [72, 73, 74, 75]), (0, []), (0, [77, 78, 79, 80, 81, 82, 83, 84]), (0, []), (0, [85]), (0, []), (0, [15, 86])]
def d27_at := And.intro (show d27.getD 0 (0, []) = (0, [6, 7]) from rfl) <| And.intro (show d27.getD 1 (0, []) = (0, [0, 14, 65, 66, 67]) from rfl) <| And.intro (show d27.getD 2 (0, []) = (0, [8, 18, 19, 20, 21, 22]) from rfl) <| And.intro (show d27.getD 3 (0, []) = (0, [16, 17]) from rfl) <| And.intro (show d27.getD 4 (0, []) = (0, [23]) from rfl) <| And.intro (show d27.getD 5 (0, []) = (0, []) from rfl) <| And.intro (show d27.getD 6 (0, []) = (0, [25]) from rfl) <| And.intro (show d27.getD 7 (0, []) = (0, []) from rfl) <| And.intro (show d27.getD 8 (0, []) = (0, [9, 10, 26, 27, 28, 29, 30]) from rfl) <| And.intro (show d27.getD 9 (0, []) = (0, []) from rfl) <| And.intro (show d27.getD 10 (0, []) = (0, [31]) from rfl) <| And.intro (show d27.getD 11 (0, []) = (0, []) from rfl) <| And.intro (show d27.getD 12 (0, []) = (0, [33]) from rfl) <| And.intro (show d27.getD 13 (0, []) = (0, []) from rfl) <| And.intro (show d27.getD 14 (0, []) = (0, [11, 34, 35, 36, 37, 38, 39]) from rfl) <| And.intro (show d27.getD 15 (0, []) = (0, []) from rfl) <| And.intro (show d27.getD 16 (0, []) = (0, [12, 13, 40, 41, 42, 43, 44, 45, 46]) from rfl) <| And.intro (show d27.getD 17 (0, []) = (0, []) from rfl) <| And.intro (show d27.getD 18 (0, []) = (0, []) from rfl) <| And.intro (show d27.getD 19 (0, []) = (0, []) from rfl) <| And.intro (show d27.getD 20 (0, []) = (0, [2, 48, 49, 50, 51, 52, 53, 1000000014]) from rfl) <| And.intro (show d27.getD 21 (0, []) = (0, []) from rfl) <| And.intro (show d27.getD 22 (0, []) = (0, [54]) from rfl) <| And.intro (show d27.getD 23 (0, []) = (0, []) from rfl) <| And.intro (show d27.getD 24 (0, []) = (0, [56]) from rfl) <| And.intro (show d27.getD 25 (0, []) = (0, []) from rfl) <| And.intro (show d27.getD 26 (0, []) = (0, [1, 13, 57, 58, 59, 60, 61, 62, 63]) from rfl) <| And.intro (show d27.getD 27 (0, []) = (0, []) from rfl) <| And.intro (show d27.getD 28 (0, []) = (0, []) from rfl) <| And.intro (show d27.getD 29 (0, []) = (0, []) from rfl) <| And.intro (show d27.getD 30 (0, []) = (0, [64]) from rfl) <| And.intro (show d27.getD 31 (0, []) = (0, []) from rfl) <| And.intro (show d27.getD 32 (0, []) = (0, []) from rfl) <| And.intro (show d27.getD 33 (0, []) = (0, []) from rfl) <| And.intro (show d27.getD 34 (0, []) = (0, [69, 70, 71]) from rfl) <| And.intro (show d27.getD 35 (0, []) = (0, []) from rfl) <| And.intro (show d27.getD 36 (0, []) = (0, [72, 73, 74, 75]) from rfl) <| And.intro (show d27.getD 37 (0, []) = (0, []) from rfl) <| And.intro (show d27.getD 38 (0, []) = (0, [77, 78, 79, 80, 81, 82, 83, 84]) from rfl) <| And.intro (show d27.getD 39 (0, []) = (0, []) from rfl) <| And.intro (show d27.getD 40 (0, []) = (0, [85]) from rfl) <| And.intro (show d27.getD 41 (0, []) = (0, []) from rfl) <| (show d27.getD 42 (0, []) = (0, [15, 86]) from rfl)
theorem i27 : finfo Try.prog 27 d27 = some ⟨bodyOf Try.f27, [.tmp 6, .tmp 7], [3, 25]⟩ := finfo_at Try.func27 rfl (by kernel_rfl) (by kernel_rfl)
def e27 : (Int × Int) → AV := fun r => .tuple [.v (.int .i64 r.1), .v (.int .i64 r.2)]
set_option maxHeartbeats 1000000 in
theorem w27 (cp : CallP) (fu : Nat) (x1 : List Int) (x2 : List Int) (x3 : Int) (H15_0 : ∀ (a0 : List Int) r, shape_Size fu a0 = some r → cp 15 [.arr a0.length (lm (ik .i64) a0)] = some (.tuple [.v (.int .i64 r.1), .v (.int .i64 r.2)])) (H25_0 : ∀ (a0 : List Int) (a1 : List Int) r, shape_Broadcast fu a0 a1 = some r → cp 25 [.arr a0.length (lm (ik .i64) a0), .arr a1.length (lm (ik .i64) a1)] = some (.tuple [.fresh 1 r.1.length (lm (ik .i64) r.1), .v (.int .i64 r.2)])) (H60_0 : ∀ (a0 : List Int) (a1 : List Int) r, slices_Equal_int fu a0 a1 = some r → cp 60 [.arr a0.length (lm (ik .i64) a0), .arr a1.length (lm (ik .i64) a1)] = some (.v (.bool r))) (H19_0 : ∀ (a0 : List Int) (a1 : Int) r, shape_Index fu a0 a1 = some r → cp 19 [.arr a0.length (lm (ik .i64) a0), .v (.int .i64 a1)] = some (.tuple [.fresh 1 r.1.length (lm (ik .i64) r.1), .v (.int .i64 r.2)])) (H57_0 : ∀ (a0 : List Int) r, shape_strides fu a0 = some r → cp 57 [.arr a0.length (lm (ik .i64) a0)] = some (.fresh 1 r.length (lm (ik .i64) r))) : J (go Try.prog noC cp noI 0 [] d27 fu (fin Try.prog [.tmp 6, .tmp 7] [3, 25]) (bodyOf Try.f27) (initE 0 [.arr x1.length (lm (ik .i64) x1), .arr x2.length (lm (ik .i64) x2), .v (.int .i64 x3)]) [] []) (shape_From fu x1 x2 x3) e27 := by
  unfold shape_From e27
  conv => arg 1; simp (disch := first | assumption | decide | with_unfolding_all rfl | omega | (simp only [LN] <;> omega) | (simp only [RO, OF])) only [bodyOf, Try.f27, RR, RM, LN, TT, d27_at, ↓reduceIte, Nat.reduceEqDiff, Nat.reduceLT, Nat.reduceLeDiff, Nat.reduceAdd, Nat.reduceSub, Nat.reduceMul, Nat.reduceMod, Nat.reduceDiv, Nat.reduceBEq]
  refine J.eq go_seq ?_
  refine J.bind fun x4 h1 => ?_
  have e_h1 := H15_0 _ _ h1
  try simp only [NN, NT, LN] at e_h1
  conv => arg 1; simp (disch := first | assumption | decide | with_unfolding_all rfl | omega | (simp only [LN] <;> omega) | (simp only [RO, OF])) only [RR, RM, LN, TT, d27_at, ↓reduceIte, Nat.reduceEqDiff, Nat.reduceLT, Nat.reduceLeDiff, Nat.reduceAdd, Nat.reduceSub, Nat.reduceMul, Nat.reduceMod, Nat.reduceDiv, Nat.reduceBEq, e_h1]
  refine J.ite (fun h2 => ?_) (fun h2 => ?_)
  · have h2' := decide_eq_true h2
    conv => arg 1; simp (disch := first | assumption | decide | with_unfolding_all rfl | omega | (simp only [LN] <;> omega) | (simp only [RO, OF])) only [RR, RM, LN, TT, d27_at, ↓reduceIte, Nat.reduceEqDiff, Nat.reduceLT, Nat.reduceLeDiff, Nat.reduceAdd, Nat.reduceSub, Nat.reduceMul, Nat.reduceMod, Nat.reduceDiv, Nat.reduceBEq, e_h1, h2']
    refine J.eq ret_seq ?_
    refine J.eq go_seq ?_
    refine J.bind fun x5 h3 => ?_
    have e_h3 := H15_0 _ _ h3
    try simp only [NN, NT, LN] at e_h3
    conv => arg 1; simp (disch := first | assumption | decide | with_unfolding_all rfl | omega | (simp only [LN] <;> omega) | (simp only [RO, OF])) only [RR, RM, LN, TT, d27_at, ↓reduceIte, Nat.reduceEqDiff, Nat.reduceLT, Nat.reduceLeDiff, Nat.reduceAdd, Nat.reduceSub, Nat.reduceMul, Nat.reduceMod, Nat.reduceDiv, Nat.reduceBEq, e_h1, h2', e_h3]
    refine J.ite (fun h4 => ?_) (fun h4 => ?_)
    · have h4' := decide_eq_true h4
      conv => arg 1; simp (disch := first | assumption | decide | with_unfolding_all rfl | omega | (simp only [LN] <;> omega) | (simp only [RO, OF])) only [RR, RM, LN, TT, d27_at, ↓reduceIte, Nat.reduceEqDiff, Nat.reduceLT, Nat.reduceLeDiff, Nat.reduceAdd, Nat.reduceSub, Nat.reduceMul, Nat.reduceMod, Nat.reduceDiv, Nat.reduceBEq, e_h1, h2', e_h3, h4']
      refine J.eq ret_seq ?_
      refine J.bind fun x6 h5 => ?_
      have e_h5 := H25_0 _ _ _ h5
      try simp only [NN, NT, LN] at e_h5
      conv => arg 1; simp (disch := first | assumption | decide | with_unfolding_all rfl | omega | (simp only [LN] <;> omega) | (simp only [RO, OF])) only [RR, RM, LN, TT, d27_at, ↓reduceIte, Nat.reduceEqDiff, Nat.reduceLT, Nat.reduceLeDiff, Nat.reduceAdd, Nat.reduceSub, Nat.reduceMul, Nat.reduceMod, Nat.reduceDiv, Nat.reduceBEq, e_h1, h2', e_h3, h4', e_h5]
      refine J.joinS (fun (t : Unit) => ([(0, .arr x1.length (lm (ik .i64) x1)), (1, .arr x2.length (lm (ik .i64) x2)), (2, .v (.int .i64 x3))], [])) (fun t => shape_From_k1 fu x1 x2 x3) ?_ (fun hj1 => ?_)
      · rintro ⟨⟩
        show J _ (shape_From_k1 fu x1 x2 x3) _
        unfold shape_From_k1
        refine J.bind fun x7 h6 => ?_
        have e_h6 := H19_0 _ _ _ h6
        try simp only [NN, NT, LN] at e_h6
        conv => arg 1; simp (disch := first | assumption | decide | with_unfolding_all rfl | omega | (simp only [LN] <;> omega) | (simp only [RO, OF])) only [RR, RM, LN, TT, d27_at, ↓reduceIte, Nat.reduceEqDiff, Nat.reduceLT, Nat.reduceLeDiff, Nat.reduceAdd, Nat.reduceSub, Nat.reduceMul, Nat.reduceMod, Nat.reduceDiv, Nat.reduceBEq, e_h1, h2', e_h3, h4', e_h5, e_h6]
        refine J.eq go_seq ?_
        conv => arg 1; simp (disch := first | assumption | decide | with_unfolding_all rfl | omega | (simp only [LN] <;> omega) | (simp only [RO, OF])) only [RR, RM, LN, TT, d27_at, ↓reduceIte, Nat.reduceEqDiff, Nat.reduceLT, Nat.reduceLeDiff, Nat.reduceAdd, Nat.reduceSub, Nat.reduceMul, Nat.reduceMod, Nat.reduceDiv, Nat.reduceBEq, e_h1, h2', e_h3, h4', e_h5, e_h6]
        refine J.ite (fun h7 => ?_) (fun h7 => ?_)
        · have h7' := decide_eq_true h7
          conv => arg 1; simp (disch := first | assumption | decide | with_unfolding_all rfl | omega | (simp only [LN] <;> omega) | (simp only [RO, OF])) only [RR, RM, LN, TT, d27_at, ↓reduceIte, Nat.reduceEqDiff, Nat.reduceLT, Nat.reduceLeDiff, Nat.reduceAdd, Nat.reduceSub, Nat.reduceMul, Nat.reduceMod, Nat.reduceDiv, Nat.reduceBEq, e_h1, h2', e_h3, h4', e_h5, e_h6, h7']
          refine J.eq ret_seq ?_
          refine J.chk fun h8 => ?_
          conv => arg 1; simp (disch := first | assumption | decide | with_unfolding_all rfl | omega | (simp only [LN] <;> omega) | (simp only [RO, OF])) only [RR, RM, LN, TT, d27_at, ↓reduceIte, Nat.reduceEqDiff, Nat.reduceLT, Nat.reduceLeDiff, Nat.reduceAdd, Nat.reduceSub, Nat.reduceMul, Nat.reduceMod, Nat.reduceDiv, Nat.reduceBEq, e_h1, h2', e_h3, h4', e_h5, e_h6, h7']
          refine J.eq go_seq ?_
          refine J.bind fun x8 h9 => ?_
          have e_h9 := H57_0 _ _ h9
          try simp only [NN, NT, LN] at e_h9
          conv => arg 1; simp (disch := first | assumption | decide | with_unfolding_all rfl | omega | (simp only [LN] <;> omega) | (simp only [RO, OF])) only [RR, RM, LN, TT, d27_at, ↓reduceIte, Nat.reduceEqDiff, Nat.reduceLT, Nat.reduceLeDiff, Nat.reduceAdd, Nat.reduceSub, Nat.reduceMul, Nat.reduceMod, Nat.reduceDiv, Nat.reduceBEq, e_h1, h2', e_h3, h4', e_h5, e_h6, h7', e_h9]
          unfold shape_From_W1
          refine J.loop (fun (s : Int × Int) => ([(0, .arr x1.length (lm (ik .i64) x1)), (14, .arr (subN x7.1 (wk .i64 ((x2.length : Int) - (x1.length : Int))).toNat x7.1.length).length (lm (ik .i64) (subN x7.1 (wk .i64 ((x2.length : Int) - (x1.length : Int))).toNat x7.1.length))), (15, .v (.int .i64 s.1)), (65, .own (0, 65, 0) 0 x8.length x8.length), (66, .v (.int .i64 (x8.length : Int))), (67, .v (.int .i64 s.2))], [((0, 65, 0), .sl true true 1 x8.length (lm (ik .i64) x8))])) (fun next s => shape_From_L1 fu x1 x2 x7 x8 (fun x12 x13 => next (x12, x13)) s.1 s.2) (s0 := (0, 0)) ?_ ?_ ?_
          · first | rfl | (simp only [LN, NN, NT])
          · first | (simp (disch := first | assumption | decide | with_unfolding_all rfl | omega | (simp only [LN] <;> omega) | (simp only [RO, OF])) only [RR, ↓reduceIte, Nat.reduceEqDiff, Nat.reduceLT, Nat.reduceLeDiff, Nat.reduceAdd, Nat.reduceSub, Nat.reduceMul, Nat.reduceMod, Nat.reduceDiv, Nat.reduceBEq, LN, NN, NT]; done) | rfl
          rintro next k1 hn1 ⟨x12, x13⟩
          let nx1 : Int → Int → Option (Int × Int) := (fun x12 x13 => next (x12, x13))
          show J _ (shape_From_L1 fu x1 x2 x7 x8 nx1 x12 x13) _
          unfold shape_From_L1
          conv => arg 1; simp (disch := first | assumption | decide | with_unfolding_all rfl | omega | (simp only [LN] <;> omega) | (simp only [RO, OF])) only [RR, RM, LN, TT, d27_at, ↓reduceIte, Nat.reduceEqDiff, Nat.reduceLT, Nat.reduceLeDiff, Nat.reduceAdd, Nat.reduceSub, Nat.reduceMul, Nat.reduceMod, Nat.reduceDiv, Nat.reduceBEq, e_h1, h2', e_h3, h4', e_h5, e_h6, h7', e_h9]
          refine J.eq go_seq ?_
          conv => arg 1; simp (disch := first | assumption | decide | with_unfolding_all rfl | omega | (simp only [LN] <;> omega) | (simp only [RO, OF])) only [RR, RM, LN, TT, d27_at, ↓reduceIte, Nat.reduceEqDiff, Nat.reduceLT, Nat.reduceLeDiff, Nat.reduceAdd, Nat.reduceSub, Nat.reduceMul, Nat.reduceMod, Nat.reduceDiv, Nat.reduceBEq, e_h1, h2', e_h3, h4', e_h5, e_h6, h7', e_h9]
          refine J.ite (fun h10 => ?_) (fun h10 => ?_)
          · have h10' := decide_eq_true h10
            have h10'' : decide ((x8.length : Int) ≤ x13) = false := decide_eq_false (by omega)
            conv => arg 1; simp (disch := first | assumption | decide | with_unfolding_all rfl | omega | (simp only [LN] <;> omega) | (simp only [RO, OF])) only [RR, RM, LN, TT, d27_at, ↓reduceIte, Nat.reduceEqDiff, Nat.reduceLT, Nat.reduceLeDiff, Nat.reduceAdd, Nat.reduceSub, Nat.reduceMul, Nat.reduceMod, Nat.reduceDiv, Nat.reduceBEq, e_h1, h2', e_h3, h4', e_h5, e_h6, h7', e_h9, h10'', h10']
            refine J.eq ret_seq ?_
            refine J.eq go_seq ?_
            refine J.at fun x17 h11 h12 h13 => ?_
            refine J.at fun x18 h14 h15 h16 => ?_
            conv => arg 1; simp (disch := first | assumption | decide | with_unfolding_all rfl | omega | (simp only [LN] <;> omega) | (simp only [RO, OF])) only [RR, RM, LN, TT, d27_at, ↓reduceIte, Nat.reduceEqDiff, Nat.reduceLT, Nat.reduceLeDiff, Nat.reduceAdd, Nat.reduceSub, Nat.reduceMul, Nat.reduceMod, Nat.reduceDiv, Nat.reduceBEq, e_h1, h2', e_h3, h4', e_h5, e_h6, h7', e_h9, h10'', h10', lm_ik h13, lm_ik h16]
            refine J.ite (fun h17 => ?_) (fun h17 => ?_)
            · have h17' := decide_eq_true h17
              conv => arg 1; simp (disch := first | assumption | decide | with_unfolding_all rfl | omega | (simp only [LN] <;> omega) | (simp only [RO, OF])) only [RR, RM, LN, TT, d27_at, ↓reduceIte, Nat.reduceEqDiff, Nat.reduceLT, Nat.reduceLeDiff, Nat.reduceAdd, Nat.reduceSub, Nat.reduceMul, Nat.reduceMod, Nat.reduceDiv, Nat.reduceBEq, e_h1, h2', e_h3, h4', e_h5, e_h6, h7', e_h9, h10'', h10', lm_ik h13, lm_ik h16, h17']
              refine J.eq ret_seq ?_
              conv => arg 1; simp (disch := first | assumption | decide | with_unfolding_all rfl | omega | (simp only [LN] <;> omega) | (simp only [RO, OF])) only [RR, RM, LN, TT, d27_at, ↓reduceIte, Nat.reduceEqDiff, Nat.reduceLT, Nat.reduceLeDiff, Nat.reduceAdd, Nat.reduceSub, Nat.reduceMul, Nat.reduceMod, Nat.reduceDiv, Nat.reduceBEq, e_h1, h2', e_h3, h4', e_h5, e_h6, h7', e_h9, h10'', h10', lm_ik h13, lm_ik h16, h17']
              refine J.next (s := (x12, wk .i64 (x13 + 1))) hn1 ?_ ?_
              · first | rfl | (simp only [LN, NN, NT])
              · first | (simp (disch := first | assumption | decide | with_unfolding_all rfl | omega | (simp only [LN] <;> omega) | (simp only [RO, OF])) only [RR, ↓reduceIte, Nat.reduceEqDiff, Nat.reduceLT, Nat.reduceLeDiff, Nat.reduceAdd, Nat.reduceSub, Nat.reduceMul, Nat.reduceMod, Nat.reduceDiv, Nat.reduceBEq, LN, NN, NT]; done) | rfl
            · have h17' := decide_eq_false h17
              refine J.at fun x19 h18 h19 h20 => ?_
              conv => arg 1; simp (disch := first | assumption | decide | with_unfolding_all rfl | omega | (simp only [LN] <;> omega) | (simp only [RO, OF])) only [RR, RM, LN, TT, d27_at, ↓reduceIte, Nat.reduceEqDiff, Nat.reduceLT, Nat.reduceLeDiff, Nat.reduceAdd, Nat.reduceSub, Nat.reduceMul, Nat.reduceMod, Nat.reduceDiv, Nat.reduceBEq, e_h1, h2', e_h3, h4', e_h5, e_h6, h7', e_h9, h10'', h10', lm_ik h13, lm_ik h16, h17', lm_ik h20]
              refine J.eq ret_seq ?_
              conv => arg 1; simp (disch := first | assumption | decide | with_unfolding_all rfl | omega | (simp only [LN] <;> omega) | (simp only [RO, OF])) only [RR, RM, LN, TT, d27_at, ↓reduceIte, Nat.reduceEqDiff, Nat.reduceLT, Nat.reduceLeDiff, Nat.reduceAdd, Nat.reduceSub, Nat.reduceMul, Nat.reduceMod, Nat.reduceDiv, Nat.reduceBEq, e_h1, h2', e_h3, h4', e_h5, e_h6, h7', e_h9, h10'', h10', lm_ik h13, lm_ik h16, h17', lm_ik h20]
              refine J.next (s := (wk .i64 (x12 + (wk .i64 (x19 * x17))), wk .i64 (x13 + 1))) hn1 ?_ ?_
              · first | rfl | (simp only [LN, NN, NT])
              · first | (simp (disch := first | assumption | decide | with_unfolding_all rfl | omega | (simp only [LN] <;> omega) | (simp only [RO, OF])) only [RR, ↓reduceIte, Nat.reduceEqDiff, Nat.reduceLT, Nat.reduceLeDiff, Nat.reduceAdd, Nat.reduceSub, Nat.reduceMul, Nat.reduceMod, Nat.reduceDiv, Nat.reduceBEq, LN, NN, NT]; done) | rfl
          · have h10' := decide_eq_false h10
            have h10'' : decide ((x8.length : Int) ≤ x13) = true := decide_eq_true (by omega)
            conv => arg 1; simp (disch := first | assumption | decide | with_unfolding_all rfl | omega | (simp only [LN] <;> omega) | (simp only [RO, OF])) only [RR, RM, LN, TT, d27_at, ↓reduceIte, Nat.reduceEqDiff, Nat.reduceLT, Nat.reduceLeDiff, Nat.reduceAdd, Nat.reduceSub, Nat.reduceMul, Nat.reduceMod, Nat.reduceDiv, Nat.reduceBEq, e_h1, h2', e_h3, h4', e_h5, e_h6, h7', e_h9, h10'', h10']
            refine J.eq ret_seq ?_
            refine J.some ?_
            simp (disch := first | assumption | decide | with_unfolding_all rfl | omega | (simp only [LN] <;> omega) | (simp only [RO, OF])) only [RR, RM, LN, TT, d27_at, ↓reduceIte, Nat.reduceEqDiff, Nat.reduceLT, Nat.reduceLeDiff, Nat.reduceAdd, Nat.reduceSub, Nat.reduceMul, Nat.reduceMod, Nat.reduceDiv, Nat.reduceBEq, e_h1, h2', e_h3, h4', e_h5, e_h6, h7', e_h9, h10'', h10', FF, LN, NN, NT]
        · have h7' := decide_eq_false h7
          refine J.some ?_
          simp (disch := first | assumption | decide | with_unfolding_all rfl | omega | (simp only [LN] <;> omega) | (simp only [RO, OF])) only [RR, RM, LN, TT, d27_at, ↓reduceIte, Nat.reduceEqDiff, Nat.reduceLT, Nat.reduceLeDiff, Nat.reduceAdd, Nat.reduceSub, Nat.reduceMul, Nat.reduceMod, Nat.reduceDiv, Nat.reduceBEq, e_h1, h2', e_h3, h4', e_h5, e_h6, h7', FF, LN, NN, NT]
      · refine J.eq go_seq ?_
        conv => arg 1; simp (disch := first | assumption | decide | with_unfolding_all rfl | omega | (simp only [LN] <;> omega) | (simp only [RO, OF])) only [RR, RM, LN, TT, d27_at, ↓reduceIte, Nat.reduceEqDiff, Nat.reduceLT, Nat.reduceLeDiff, Nat.reduceAdd, Nat.reduceSub, Nat.reduceMul, Nat.reduceMod, Nat.reduceDiv, Nat.reduceBEq, e_h1, h2', e_h3, h4', e_h5]
        refine J.ite (fun h21 => ?_) (fun h21 => ?_)
        · have h21' := decide_eq_true h21
          refine J.bind fun x20 h22 => ?_
          have e_h22 := H60_0 _ _ _ h22
          try simp only [NN, NT, LN] at e_h22
          conv => arg 1; simp (disch := first | assumption | decide | with_unfolding_all rfl | omega | (simp only [LN] <;> omega) | (simp only [RO, OF])) only [RR, RM, LN, TT, d27_at, ↓reduceIte, Nat.reduceEqDiff, Nat.reduceLT, Nat.reduceLeDiff, Nat.reduceAdd, Nat.reduceSub, Nat.reduceMul, Nat.reduceMod, Nat.reduceDiv, Nat.reduceBEq, e_h1, h2', e_h3, h4', e_h5, h21', e_h22]
          refine J.eq ret_seq ?_
          conv => arg 1; simp (disch := first | assumption | decide | with_unfolding_all rfl | omega | (simp only [LN] <;> omega) | (simp only [RO, OF])) only [RR, RM, LN, TT, d27_at, ↓reduceIte, Nat.reduceEqDiff, Nat.reduceLT, Nat.reduceLeDiff, Nat.reduceAdd, Nat.reduceSub, Nat.reduceMul, Nat.reduceMod, Nat.reduceDiv, Nat.reduceBEq, e_h1, h2', e_h3, h4', e_h5, h21', e_h22]
          refine J.ite (fun h23 => ?_) (fun h23 => ?_)
          · have h23' : x20 = true := h23
            conv => arg 1; simp (disch := first | assumption | decide | with_unfolding_all rfl | omega | (simp only [LN] <;> omega) | (simp only [RO, OF])) only [RR, RM, LN, TT, d27_at, ↓reduceIte, Nat.reduceEqDiff, Nat.reduceLT, Nat.reduceLeDiff, Nat.reduceAdd, Nat.reduceSub, Nat.reduceMul, Nat.reduceMod, Nat.reduceDiv, Nat.reduceBEq, e_h1, h2', e_h3, h4', e_h5, h21', e_h22, h23']
            refine J.jmp (t := ()) hj1 ?_ ?_
            · first | rfl | (simp only [LN, NN, NT])
            · first | (simp (disch := first | assumption | decide | with_unfolding_all rfl | omega | (simp only [LN] <;> omega) | (simp only [RO, OF])) only [RR, ↓reduceIte, Nat.reduceEqDiff, Nat.reduceLT, Nat.reduceLeDiff, Nat.reduceAdd, Nat.reduceSub, Nat.reduceMul, Nat.reduceMod, Nat.reduceDiv, Nat.reduceBEq, LN, NN, NT]; done) | rfl
          · have h23' : x20 = false := Bool.eq_false_iff.2 h23
            refine J.some ?_
            simp (disch := first | assumption | decide | with_unfolding_all rfl | omega | (simp only [LN] <;> omega) | (simp only [RO, OF])) only [RR, RM, LN, TT, d27_at, ↓reduceIte, Nat.reduceEqDiff, Nat.reduceLT, Nat.reduceLeDiff, Nat.reduceAdd, Nat.reduceSub, Nat.reduceMul, Nat.reduceMod, Nat.reduceDiv, Nat.reduceBEq, e_h1, h2', e_h3, h4', e_h5, h21', e_h22, h23', FF, LN, NN, NT]
        · have h21' := decide_eq_false h21
          conv => arg 1; simp (disch := first | assumption | decide | with_unfolding_all rfl | omega | (simp only [LN] <;> omega) | (simp only [RO, OF])) only [RR, RM, LN, TT, d27_at, ↓reduceIte, Nat.reduceEqDiff, Nat.reduceLT, Nat.reduceLeDiff, Nat.reduceAdd, Nat.reduceSub, Nat.reduceMul, Nat.reduceMod, Nat.reduceDiv, Nat.reduceBEq, e_h1, h2', e_h3, h4', e_h5, h21']
          refine J.eq ret_seq ?_
          refine J.some ?_
          simp (disch := first | assumption | decide | with_unfolding_all rfl | omega | (simp only [LN] <;> omega) | (simp only [RO, OF])) only [RR, RM, LN, TT, d27_at, ↓reduceIte, Nat.reduceEqDiff, Nat.reduceLT, Nat.reduceLeDiff, Nat.reduceAdd, Nat.reduceSub, Nat.reduceMul, Nat.reduceMod, Nat.reduceDiv, Nat.reduceBEq, e_h1, h2', e_h3, h4', e_h5, h21', FF, LN, NN, NT]
    · have h4' := decide_eq_false h4
      refine J.some ?_
      simp (disch := first | assumption | decide | with_unfolding_all rfl | omega | (simp only [LN] <;> omega) | (simp only [RO, OF])) only [RR, RM, LN, TT, d27_at, ↓reduceIte, Nat.reduceEqDiff, Nat.reduceLT, Nat.reduceLeDiff, Nat.reduceAdd, Nat.reduceSub, Nat.reduceMul, Nat.reduceMod, Nat.reduceDiv, Nat.reduceBEq, e_h1, h2', e_h3, h4', FF, LN, NN, NT]
  · have h2' := decide_eq_false h2
    refine J.some ?_
    simp (disch := first | assumption | decide | with_unfolding_all rfl | omega | (simp only [LN] <;> omega) | (simp only [RO, OF])) only [RR, RM, LN, TT, d27_at, ↓reduceIte, Nat.reduceEqDiff, Nat.reduceLT, Nat.reduceLeDiff, Nat.reduceAdd, Nat.reduceSub, Nat.reduceMul, Nat.reduceMod, Nat.reduceDiv, Nat.reduceBEq, e_h1, h2', FF, LN, NN, NT]
noncomputable def t27 (fu : Nat) : CallP := orE 15 (mkC (fun (t : List Int) => ([.arr t.length (lm (ik .i64) t)] : List AV)) (fun t => shape_Size fu t) e15) (orE 25 (mkC (fun (t : (List Int) × (List Int)) => ([.arr t.1.length (lm (ik .i64) t.1), .arr t.2.length (lm (ik .i64) t.2)] : List AV)) (fun t => shape_Broadcast fu t.1 t.2) e25) (orE 60 (mkC (fun (t : (List Int) × (List Int)) => ([.arr t.1.length (lm (ik .i64) t.1), .arr t.2.length (lm (ik .i64) t.2)] : List AV)) (fun t => slices_Equal_int fu t.1 t.2) e60) (orE 19 (mkC (fun (t : (List Int) × Int) => ([.arr t.1.length (lm (ik .i64) t.1), .v (.int .i64 t.2)] : List AV)) (fun t => shape_Index fu t.1 t.2) e19) (orE 57 (mkC (fun (t : List Int) => ([.arr t.length (lm (ik .i64) t)] : List AV)) (fun t => shape_strides fu t) e57) (noP)))))
theorem t27_ok (fu : Nat) : CpOK Try.prog (t27 fu ) := orE_ok (orE_ok (orE_ok (orE_ok (orE_ok (noP_ok) (mkC_ok (fun t b h => ok57 fu t  b h))) (mkC_ok (fun t b h => ok19 fu t.1 t.2  b h))) (mkC_ok (fun t b h => ok60 fu t.1 t.2  b h))) (mkC_ok (fun t b h => ok25 fu t.1 t.2  b h))) (mkC_ok (fun t b h => ok15 fu t  b h))
theorem ok27 (fu : Nat) (x1 : List Int) (x2 : List Int) (x3 : Int) (r) (h : shape_From fu x1 x2 x3 = some r) : PureOK Try.prog 27 [.arr x1.length (lm (ik .i64) x1), .arr x2.length (lm (ik .i64) x2), .v (.int .i64 x3)] (e27 r) :=
  pure_J mixed (cp := t27 fu ) (t27_ok fu  ) noI_ok i27 (w27 _ fu x1 x2 x3  (fun a0 r h => orE_hit (mkC_at (a := a0) (by intro a b h; first | (exact rfl) | (simp only [INJ] at h; first | exact h | (simp_all [Prod.ext_iff]) )) h)) (fun a0 a1 r h => orE_miss (by decide) (orE_hit (mkC_at (a := (a0, a1)) (by intro a b h; first | (exact rfl) | (simp only [INJ] at h; first | exact h | (simp_all [Prod.ext_iff]) )) h))) (fun a0 a1 r h => orE_miss (by decide) (orE_miss (by decide) (orE_hit (mkC_at (a := (a0, a1)) (by intro a b h; first | (exact rfl) | (simp only [INJ] at h; first | exact h | (simp_all [Prod.ext_iff]) )) h)))) (fun a0 a1 r h => orE_miss (by decide) (orE_miss (by decide) (orE_miss (by decide) (orE_hit (mkC_at (a := (a0, a1)) (by intro a b h; first | (exact rfl) | (simp only [INJ] at h; first | exact h | (simp_all [Prod.ext_iff]) )) h))))) (fun a0 r h => orE_miss (by decide) (orE_miss (by decide) (orE_miss (by decide) (orE_miss (by decide) (orE_hit (mkC_at (a := a0) (by intro a b h; first | (exact rfl) | (simp only [INJ] at h; first | exact h | (simp_all [Prod.ext_iff]) )) h))))))) h
/-! 51: lattice/shape.Axis -/
def d51 : List (Nat × List Nat) := [(0, [4, 5]), (0, [0, 1]), (0, [7, 8]), (0, []), (0, []), (0, []), (0, [10, 11, 12, 13, 14, 15, 16]), (0, []), (0, [17]), (0, []), (0, [19, 20, 21, 22, 23, 24, 25, 26]), (0, []), (0, [27, 28, 29]), (0, []), (0, [])]
def d51_at := And.intro (show d51.getD 0 (0, []) = (0, [4, 5]) from rfl) <| And.intro (show d51.getD 1 (0, []) = (0, [0, 1]) from rfl) <| And.intro (show d51.getD 2 (0, []) = (0, [7, 8]) from rfl) <| And.intro (show d51.getD 3 (0, []) = (0, []) from rfl) <| And.intro (show d51.getD 4 (0, []) = (0, []) from rfl) <| And.intro (show d51.getD 5 (0, []) = (0, []) from rfl) <| And.intro (show d51.getD 6 (0, []) = (0, [10, 11, 12, 13, 14, 15, 16]) from rfl) <| And.intro (show d51.getD 7 (0, []) = (0, []) from rfl) <| And.intro (show d51.getD 8 (0, []) = (0, [17]) from rfl) <| And.intro (show d51.getD 9 (0, []) = (0, []) from rfl) <| And.intro (show d51.getD 10 (0, []) = (0, [19, 20, 21, 22, 23, 24, 25, 26]) from rfl) <| And.intro (show d51.getD 11 (0, []) = (0, []) from rfl) <| And.intro (show d51.getD 12 (0, []) = (0, [27, 28, 29]) from rfl) <| And.intro (show d51.getD 13 (0, []) = (0, []) from rfl) <| (show d51.getD 14 (0, []) = (0, []) from rfl)
theorem i51 : finfo Try.prog 51 d51 = some ⟨bodyOf Try.f51, [.tmp 4, .tmp 5], [3, 25]⟩ := finfo_at Try.func51 rfl (by kernel_rfl) (by kernel_rfl)
def e51 : (Int × Int) → AV := fun r => .tuple [.v (.int .i64 r.1), .v (.int .i64 r.2)]
set_option maxHeartbeats 1000000 in
theorem w51 (cp : CallP) (fu : Nat) (x1 : Int) (x2 : Int) : J (go Try.prog noC cp noI 0 [] d51 fu (fin Try.prog [.tmp 4, .tmp 5] [3, 25]) (bodyOf Try.f51) (initE 0 [.v (.int .i64 x1), .v (.int .i64 x2)]) [] []) (shape_Axis fu x1 x2) e51 := by
  unfold shape_Axis e51
  conv => arg 1; simp (disch := first | assumption | decide | with_unfolding_all rfl | omega | (simp only [LN] <;> omega) | (simp only [RO, OF])) only [bodyOf, Try.f51, RR, RM, LN, TT, d51_at, ↓reduceIte, Nat.reduceEqDiff, Nat.reduceLT, Nat.reduceLeDiff, Nat.reduceAdd, Nat.reduceSub, Nat.reduceMul, Nat.reduceMod, Nat.reduceDiv, Nat.reduceBEq]
  refine J.eq go_seq ?_
  conv => arg 1; simp (disch := first | assumption | decide | with_unfolding_all rfl | omega | (simp only [LN] <;> omega) | (simp only [RO, OF])) only [RR, RM, LN, TT, d51_at, ↓reduceIte, Nat.reduceEqDiff, Nat.reduceLT, Nat.reduceLeDiff, Nat.reduceAdd, Nat.reduceSub, Nat.reduceMul, Nat.reduceMod, Nat.reduceDiv, Nat.reduceBEq]
  refine J.ite (fun h1 => ?_) (fun h1 => ?_)
  · have h1' := decide_eq_true h1
    have h1'' : decide (0 ≤ x2) = false := decide_eq_false (by omega)
    refine J.some ?_
    simp (disch := first | assumption | decide | with_unfolding_all rfl | omega | (simp only [LN] <;> omega) | (simp only [RO, OF])) only [RR, RM, LN, TT, d51_at, ↓reduceIte, Nat.reduceEqDiff, Nat.reduceLT, Nat.reduceLeDiff, Nat.reduceAdd, Nat.reduceSub, Nat.reduceMul, Nat.reduceMod, Nat.reduceDiv, Nat.reduceBEq, h1'', h1', FF, LN, NN, NT]
  · have h1' := decide_eq_false h1
    have h1'' : decide (0 ≤ x2) = true := decide_eq_true (by omega)
    conv => arg 1; simp (disch := first | assumption | decide | with_unfolding_all rfl | omega | (simp only [LN] <;> omega) | (simp only [RO, OF])) only [RR, RM, LN, TT, d51_at, ↓reduceIte, Nat.reduceEqDiff, Nat.reduceLT, Nat.reduceLeDiff, Nat.reduceAdd, Nat.reduceSub, Nat.reduceMul, Nat.reduceMod, Nat.reduceDiv, Nat.reduceBEq, h1'', h1']
    refine J.eq go_seq ?_
    conv => arg 1; simp (disch := first | assumption | decide | with_unfolding_all rfl | omega | (simp only [LN] <;> omega) | (simp only [RO, OF])) only [RR, RM, LN, TT, d51_at, ↓reduceIte, Nat.reduceEqDiff, Nat.reduceLT, Nat.reduceLeDiff, Nat.reduceAdd, Nat.reduceSub, Nat.reduceMul, Nat.reduceMod, Nat.reduceDiv, Nat.reduceBEq, h1'', h1']
    refine J.ite (fun h2 => ?_) (fun h2 => ?_)
    · have h2' := decide_eq_true h2
      have h2'' : decide (x1 < 0) = false := decide_eq_false (by omega)
      conv => arg 1; simp (disch := first | assumption | decide | with_unfolding_all rfl | omega | (simp only [LN] <;> omega) | (simp only [RO, OF])) only [RR, RM, LN, TT, d51_at, ↓reduceIte, Nat.reduceEqDiff, Nat.reduceLT, Nat.reduceLeDiff, Nat.reduceAdd, Nat.reduceSub, Nat.reduceMul, Nat.reduceMod, Nat.reduceDiv, Nat.reduceBEq, h1'', h1', h2'', h2']
      refine J.eq ret_seq ?_
      conv => arg 1; simp (disch := first | assumption | decide | with_unfolding_all rfl | omega | (simp only [LN] <;> omega) | (simp only [RO, OF])) only [RR, RM, LN, TT, d51_at, ↓reduceIte, Nat.reduceEqDiff, Nat.reduceLT, Nat.reduceLeDiff, Nat.reduceAdd, Nat.reduceSub, Nat.reduceMul, Nat.reduceMod, Nat.reduceDiv, Nat.reduceBEq, h1'', h1', h2'', h2']
      refine J.ite (fun h3 => ?_) (fun h3 => ?_)
      · have h3' := decide_eq_true h3
        have h3'' : decide (x2 ≤ x1) = false := decide_eq_false (by omega)
        refine J.some ?_
        simp (disch := first | assumption | decide | with_unfolding_all rfl | omega | (simp only [LN] <;> omega) | (simp only [RO, OF])) only [RR, RM, LN, TT, d51_at, ↓reduceIte, Nat.reduceEqDiff, Nat.reduceLT, Nat.reduceLeDiff, Nat.reduceAdd, Nat.reduceSub, Nat.reduceMul, Nat.reduceMod, Nat.reduceDiv, Nat.reduceBEq, h1'', h1', h2'', h2', h3'', h3', FF, LN, NN, NT]
      · have h3' := decide_eq_false h3
        have h3'' : decide (x2 ≤ x1) = true := decide_eq_true (by omega)
        conv => arg 1; simp (disch := first | assumption | decide | with_unfolding_all rfl | omega | (simp only [LN] <;> omega) | (simp only [RO, OF])) only [RR, RM, LN, TT, d51_at, ↓reduceIte, Nat.reduceEqDiff, Nat.reduceLT, Nat.reduceLeDiff, Nat.reduceAdd, Nat.reduceSub, Nat.reduceMul, Nat.reduceMod, Nat.reduceDiv, Nat.reduceBEq, h1'', h1', h2'', h2', h3'', h3']
        refine J.eq go_seq ?_
        conv => arg 1; simp (disch := first | assumption | decide | with_unfolding_all rfl | omega | (simp only [LN] <;> omega) | (simp only [RO, OF])) only [RR, RM, LN, TT, d51_at, ↓reduceIte, Nat.reduceEqDiff, Nat.reduceLT, Nat.reduceLeDiff, Nat.reduceAdd, Nat.reduceSub, Nat.reduceMul, Nat.reduceMod, Nat.reduceDiv, Nat.reduceBEq, h1'', h1', h2'', h2', h3'', h3']
        refine J.eq ret_seq ?_
        conv => arg 1; simp (disch := first | assumption | decide | with_unfolding_all rfl | omega | (simp only [LN] <;> omega) | (simp only [RO, OF])) only [RR, RM, LN, TT, d51_at, ↓reduceIte, Nat.reduceEqDiff, Nat.reduceLT, Nat.reduceLeDiff, Nat.reduceAdd, Nat.reduceSub, Nat.reduceMul, Nat.reduceMod, Nat.reduceDiv, Nat.reduceBEq, h1'', h1', h2'', h2', h3'', h3']
        refine J.eq ret_seq ?_
        refine J.some ?_
        simp (disch := first | assumption | decide | with_unfolding_all rfl | omega | (simp only [LN] <;> omega) | (simp only [RO, OF])) only [RR, RM, LN, TT, d51_at, ↓reduceIte, Nat.reduceEqDiff, Nat.reduceLT, Nat.reduceLeDiff, Nat.reduceAdd, Nat.reduceSub, Nat.reduceMul, Nat.reduceMod, Nat.reduceDiv, Nat.reduceBEq, h1'', h1', h2'', h2', h3'', h3', FF, LN, NN, NT]
    · have h2' := decide_eq_false h2
      have h2'' : decide (x1 < 0) = true := decide_eq_true (by omega)
      conv => arg 1; simp (disch := first | assumption | decide | with_unfolding_all rfl | omega | (simp only [LN] <;> omega) | (simp only [RO, OF])) only [RR, RM, LN, TT, d51_at, ↓reduceIte, Nat.reduceEqDiff, Nat.reduceLT, Nat.reduceLeDiff, Nat.reduceAdd, Nat.reduceSub, Nat.reduceMul, Nat.reduceMod, Nat.reduceDiv, Nat.reduceBEq, h1'', h1', h2'', h2']
      refine J.eq ret_seq ?_
      conv => arg 1; simp (disch := first | assumption | decide | with_unfolding_all rfl | omega | (simp only [LN] <;> omega) | (simp only [RO, OF])) only [RR, RM, LN, TT, d51_at, ↓reduceIte, Nat.reduceEqDiff, Nat.reduceLT, Nat.reduceLeDiff, Nat.reduceAdd, Nat.reduceSub, Nat.reduceMul, Nat.reduceMod, Nat.reduceDiv, Nat.reduceBEq, h1'', h1', h2'', h2']
      refine J.eq go_seq ?_
      conv => arg 1; simp (disch := first | assumption | decide | with_unfolding_all rfl | omega | (simp only [LN] <;> omega) | (simp only [RO, OF])) only [RR, RM, LN, TT, d51_at, ↓reduceIte, Nat.reduceEqDiff, Nat.reduceLT, Nat.reduceLeDiff, Nat.reduceAdd, Nat.reduceSub, Nat.reduceMul, Nat.reduceMod, Nat.reduceDiv, Nat.reduceBEq, h1'', h1', h2'', h2']
      refine J.eq ret_seq ?_
      conv => arg 1; simp (disch := first | assumption | decide | with_unfolding_all rfl | omega | (simp only [LN] <;> omega) | (simp only [RO, OF])) only [RR, RM, LN, TT, d51_at, ↓reduceIte, Nat.reduceEqDiff, Nat.reduceLT, Nat.reduceLeDiff, Nat.reduceAdd, Nat.reduceSub, Nat.reduceMul, Nat.reduceMod, Nat.reduceDiv, Nat.reduceBEq, h1'', h1', h2'', h2']
      refine J.ite (fun h4 => ?_) (fun h4 => ?_)
      · have h4' := decide_eq_true h4
        have h4'' : decide (x1 < (wk .i64 (0 - x2))) = false := decide_eq_false (by omega)
        refine J.some ?_
        simp (disch := first | assumption | decide | with_unfolding_all rfl | omega | (simp only [LN] <;> omega) | (simp only [RO, OF])) only [RR, RM, LN, TT, d51_at, ↓reduceIte, Nat.reduceEqDiff, Nat.reduceLT, Nat.reduceLeDiff, Nat.reduceAdd, Nat.reduceSub, Nat.reduceMul, Nat.reduceMod, Nat.reduceDiv, Nat.reduceBEq, h1'', h1', h2'', h2', h4'', h4', FF, LN, NN, NT]
      · have h4' := decide_eq_false h4
        have h4'' : decide (x1 < (wk .i64 (0 - x2))) = true := decide_eq_true (by omega)
        conv => arg 1; simp (disch := first | assumption | decide | with_unfolding_all rfl | omega | (simp only [LN] <;> omega) | (simp only [RO, OF])) only [RR, RM, LN, TT, d51_at, ↓reduceIte, Nat.reduceEqDiff, Nat.reduceLT, Nat.reduceLeDiff, Nat.reduceAdd, Nat.reduceSub, Nat.reduceMul, Nat.reduceMod, Nat.reduceDiv, Nat.reduceBEq, h1'', h1', h2'', h2', h4'', h4']
        refine J.eq ret_seq ?_
        refine J.some ?_
        simp (disch := first | assumption | decide | with_unfolding_all rfl | omega | (simp only [LN] <;> omega) | (simp only [RO, OF])) only [RR, RM, LN, TT, d51_at, ↓reduceIte, Nat.reduceEqDiff, Nat.reduceLT, Nat.reduceLeDiff, Nat.reduceAdd, Nat.reduceSub, Nat.reduceMul, Nat.reduceMod, Nat.reduceDiv, Nat.reduceBEq, h1'', h1', h2'', h2', h4'', h4', FF, LN, NN, NT]
noncomputable def t51 (fu : Nat) : CallP := noP
theorem t51_ok (fu : Nat) : CpOK Try.prog (t51 fu ) := noP_ok
theorem ok51 (fu : Nat) (x1 : Int) (x2 : Int) (r) (h : shape_Axis fu x1 x2 = some r) : PureOK Try.prog 51 [.v (.int .i64 x1), .v (.int .i64 x2)] (e51 r) :=
  pure_J mixed (cp := t51 fu ) (t51_ok fu  ) noI_ok i51 (w51 _ fu x1 x2  ) h
/-! 52: lattice/shape.Axes -/
def d52 : List (Nat × List Nat) := [(0, [4, 5]), (0, [1, 20, 21, 22]), (0, [12, 13, 14, 15, 16]), (0, []), (0, []), (0, []), (0, [18, 19]), (0, []), (0, []), (0, []), (0, [0]), (0, []), (0, []), (0, []), (0, [24, 25]), (0, []), (0, [9, 26, 27, 28, 29, 30, 31]), (0, []), (0, [32]), (0, []), (0, [34]), (0, []), (0, [11, 35, 36, 37, 38, 39, 40, 41]), (0, []), (0, [10, 42, 43, 44]), (0, []), (0, [45]), (0, []), (0, [7]), (0, []), (0, []), (0, []), (0, [6, 47])]
def d52_at := And.intro (show d52.getD 0 (0, []) = (0, [4, 5]) from rfl) <| And.intro (show d52.getD 1 (0, []) = (0, [1, 20, 21, 22]) from rfl) <| And.intro (show d52.getD 2 (0, []) = (0, [12, 13, 14, 15, 16]) from rfl) <| And.intro (show d52.getD 3 (0, []) = (0, []) from rfl) <| And.intro (show d52.getD 4 (0, []) = (0, []) from rfl) <| And.intro (show d52.getD 5 (0, []) = (0, []) from rfl) <| And.intro (show d52.getD 6 (0, []) = (0, [18, 19]) from rfl) <| And.intro (show d52.getD 7 (0, []) = (0, []) from rfl) <| And.intro (show d52.getD 8 (0, []) = (0, []) from rfl) <| And.intro (show d52.getD 9 (0, []) = (0, []) from rfl) <| And.intro (show d52.getD 10 (0, []) = (0, [0]) from rfl) <| And.intro (show d52.getD 11 (0, []) = (0, []) from rfl) <| And.intro (show d52.getD 12 (0, []) = (0, []) from rfl) <| And.intro (show d52.getD 13 (0, []) = (0, []) from rfl) <| And.intro (show d52.getD 14 (0, []) = (0, [24, 25]) from rfl) <| And.intro (show d52.getD 15 (0, []) = (0, []) from rfl) <| And.intro (show d52.getD 16 (0, []) = (0, [9, 26, 27, 28, 29, 30, 31]) from rfl) <| And.intro (show d52.getD 17 (0, []) = (0, []) from rfl) <| And.intro (show d52.getD 18 (0, []) = (0, [32]) from rfl) <| And.intro (show d52.getD 19 (0, []) = (0, []) from rfl) <| And.intro (show d52.getD 20 (0, []) = (0, [34]) from rfl) <| And.intro (show d52.getD 21 (0, []) = (0, []) from rfl) <| And.intro (show d52.getD 22 (0, []) = (0, [11, 35, 36, 37, 38, 39, 40, 41]) from rfl) <| And.intro (show d52.getD 23 (0, []) = (0, []) from rfl) <| And.intro (show d52.getD 24 (0, []) = (0, [10, 42, 43, 44]) from rfl) <| And.intro (show d52.getD 25 (0, []) = (0, []) from rfl) <| And.intro (show d52.getD 26 (0, []) = (0, [45]) from rfl) <| And.intro (show d52.getD 27 (0, []) = (0, []) from rfl) <| And.intro (show d52.getD 28 (0, []) = (0, [7]) from rfl) <| And.intro (show d52.getD 29 (0, []) = (0, []) from rfl) <| And.intro (show d52.getD 30 (0, []) = (0, []) from rfl) <| And.intro (show d52.getD 31 (0, []) = (0, []) from rfl) <| (show d52.getD 32 (0, []) = (0, [6, 47]) from rfl)
theorem i52 : finfo Try.prog 52 d52 = some ⟨bodyOf Try.f52, [.tmp 4, .tmp 5], [40, 25]⟩ := finfo_at Try.func52 rfl (by kernel_rfl) (by kernel_rfl)
def e52 : ((List Bool) × Int) → AV := fun r => .tuple [.fresh 1 r.1.length (lm (bk) r.1), .v (.int .i64 r.2)]
set_option maxHeartbeats 1000000 in
theorem w52 (cp : CallP) (fu : Nat) (x1 : List Int) (x2 : Int) (H51_0 : ∀ (a0 : Int) (a1 : Int) r, shape_Axis fu a0 a1 = some r → cp 51 [.v (.int .i64 a0), .v (.int .i64 a1)] = some (.tuple [.v (.int .i64 r.1), .v (.int .i64 r.2)])) : J (go Try.prog noC cp noI 0 [] d52 fu (fin Try.prog [.tmp 4, .tmp 5] [40, 25]) (bodyOf Try.f52) (initE 0 [.arr x1.length (lm (ik .i64) x1), .v (.int .i64 x2)]) [] []) (shape_Axes fu x1 x2) e52 := by
  unfold shape_Axes e52
  conv => arg 1; simp (disch := first | assumption | decide | with_unfolding_all rfl | omega | (simp only [LN] <;> omega) | (simp only [RO, OF])) only [bodyOf, Try.f52, RR, RM, LN, TT, d52_at, ↓reduceIte, Nat.reduceEqDiff, Nat.reduceLT, Nat.reduceLeDiff, Nat.reduceAdd, Nat.reduceSub, Nat.reduceMul, Nat.reduceMod, Nat.reduceDiv, Nat.reduceBEq]
  refine J.joinS (fun (t : Unit) => ([(0, .arr x1.length (lm (ik .i64) x1)), (1, .v (.int .i64 x2))], [])) (fun t => shape_Axes_k1 fu x1 x2) ?_ (fun hj1 => ?_)
  · rintro ⟨⟩
    show J _ (shape_Axes_k1 fu x1 x2) _
    unfold shape_Axes_k1
    refine J.chk fun h1 => ?_
    conv => arg 1; simp (disch := first | assumption | decide | with_unfolding_all rfl | omega | (simp only [LN] <;> omega) | (simp only [RO, OF])) only [RR, RM, LN, TT, d52_at, ↓reduceIte, Nat.reduceEqDiff, Nat.reduceLT, Nat.reduceLeDiff, Nat.reduceAdd, Nat.reduceSub, Nat.reduceMul, Nat.reduceMod, Nat.reduceDiv, Nat.reduceBEq]
    refine J.joinS (fun (t : (List Bool) × Bool) => ([(6, .own (0, 19, 0) 0 t.1.length t.1.length), (7, .v (.bool t.2))], [((0, 19, 0), .sl true true 1 t.1.length (lm (bk) t.1))])) (fun t => shape_Axes_k2 fu t.1 t.2) ?_ (fun hj2 => ?_)
    · rintro ⟨x3, x4⟩
      show J _ (shape_Axes_k2 fu x3 x4) _
      unfold shape_Axes_k2
      refine J.eq go_seq ?_
      conv => arg 1; simp (disch := first | assumption | decide | with_unfolding_all rfl | omega | (simp only [LN] <;> omega) | (simp only [RO, OF])) only [RR, RM, LN, TT, d52_at, ↓reduceIte, Nat.reduceEqDiff, Nat.reduceLT, Nat.reduceLeDiff, Nat.reduceAdd, Nat.reduceSub, Nat.reduceMul, Nat.reduceMod, Nat.reduceDiv, Nat.reduceBEq]
      refine J.ite (fun h2 => ?_) (fun h2 => ?_)
      · have h2' : x4 = true := h2
        refine J.some ?_
        simp (disch := first | assumption | decide | with_unfolding_all rfl | omega | (simp only [LN] <;> omega) | (simp only [RO, OF])) only [RR, RM, LN, TT, d52_at, ↓reduceIte, Nat.reduceEqDiff, Nat.reduceLT, Nat.reduceLeDiff, Nat.reduceAdd, Nat.reduceSub, Nat.reduceMul, Nat.reduceMod, Nat.reduceDiv, Nat.reduceBEq, h2', FF, LN, NN, NT]
      · have h2' : x4 = false := Bool.eq_false_iff.2 h2
        conv => arg 1; simp (disch := first | assumption | decide | with_unfolding_all rfl | omega | (simp only [LN] <;> omega) | (simp only [RO, OF])) only [RR, RM, LN, TT, d52_at, ↓reduceIte, Nat.reduceEqDiff, Nat.reduceLT, Nat.reduceLeDiff, Nat.reduceAdd, Nat.reduceSub, Nat.reduceMul, Nat.reduceMod, Nat.reduceDiv, Nat.reduceBEq, h2']
        refine J.eq ret_seq ?_
        refine J.some ?_
        simp (disch := first | assumption | decide | with_unfolding_all rfl | omega | (simp only [LN] <;> omega) | (simp only [RO, OF])) only [RR, RM, LN, TT, d52_at, ↓reduceIte, Nat.reduceEqDiff, Nat.reduceLT, Nat.reduceLeDiff, Nat.reduceAdd, Nat.reduceSub, Nat.reduceMul, Nat.reduceMod, Nat.reduceDiv, Nat.reduceBEq, h2', FF, LN, NN, NT]
    · conv => arg 1; simp (disch := first | assumption | decide | with_unfolding_all rfl | omega | (simp only [LN] <;> omega) | (simp only [RO, OF])) only [RR, RM, LN, TT, d52_at, ↓reduceIte, Nat.reduceEqDiff, Nat.reduceLT, Nat.reduceLeDiff, Nat.reduceAdd, Nat.reduceSub, Nat.reduceMul, Nat.reduceMod, Nat.reduceDiv, Nat.reduceBEq]
      unfold shape_Axes_W1
      refine J.loop (fun (s : (List Bool) × Bool × Int) => ([(1, .v (.int .i64 x2)), (6, .own (0, 19, 0) 0 s.1.length s.1.length), (7, .v (.bool s.2.1)), (20, .arr x1.length (lm (ik .i64) x1)), (21, .v (.int .i64 (x1.length : Int))), (22, .v (.int .i64 s.2.2))], [((0, 19, 0), .sl true true 1 s.1.length (lm (bk) s.1))])) (fun next s => shape_Axes_L1 fu x1 x2 (fun x8 x9 x10 => next (x8, x9, x10)) s.1 s.2.1 s.2.2) (s0 := (List.replicate x2.toNat (false : Bool), false, 0)) ?_ ?_ ?_
      · first | rfl | (simp only [LN, NN, NT])
      · first | (simp (disch := first | assumption | decide | with_unfolding_all rfl | omega | (simp only [LN] <;> omega) | (simp only [RO, OF])) only [RR, ↓reduceIte, Nat.reduceEqDiff, Nat.reduceLT, Nat.reduceLeDiff, Nat.reduceAdd, Nat.reduceSub, Nat.reduceMul, Nat.reduceMod, Nat.reduceDiv, Nat.reduceBEq, LN, NN, NT]; done) | rfl
      rintro next k1 hn1 ⟨x8, x9, x10⟩
      let nx1 : (List Bool) → Bool → Int → Option ((List Bool) × Int) := (fun x8 x9 x10 => next (x8, x9, x10))
      show J _ (shape_Axes_L1 fu x1 x2 nx1 x8 x9 x10) _
      unfold shape_Axes_L1
      conv => arg 1; simp (disch := first | assumption | decide | with_unfolding_all rfl | omega | (simp only [LN] <;> omega) | (simp only [RO, OF])) only [RR, RM, LN, TT, d52_at, ↓reduceIte, Nat.reduceEqDiff, Nat.reduceLT, Nat.reduceLeDiff, Nat.reduceAdd, Nat.reduceSub, Nat.reduceMul, Nat.reduceMod, Nat.reduceDiv, Nat.reduceBEq]
      refine J.eq go_seq ?_
      conv => arg 1; simp (disch := first | assumption | decide | with_unfolding_all rfl | omega | (simp only [LN] <;> omega) | (simp only [RO, OF])) only [RR, RM, LN, TT, d52_at, ↓reduceIte, Nat.reduceEqDiff, Nat.reduceLT, Nat.reduceLeDiff, Nat.reduceAdd, Nat.reduceSub, Nat.reduceMul, Nat.reduceMod, Nat.reduceDiv, Nat.reduceBEq]
      refine J.ite (fun h3 => ?_) (fun h3 => ?_)
      · have h3' := decide_eq_true h3
        have h3'' : decide ((x1.length : Int) ≤ x10) = false := decide_eq_false (by omega)
        conv => arg 1; simp (disch := first | assumption | decide | with_unfolding_all rfl | omega | (simp only [LN] <;> omega) | (simp only [RO, OF])) only [RR, RM, LN, TT, d52_at, ↓reduceIte, Nat.reduceEqDiff, Nat.reduceLT, Nat.reduceLeDiff, Nat.reduceAdd, Nat.reduceSub, Nat.reduceMul, Nat.reduceMod, Nat.reduceDiv, Nat.reduceBEq, h3'', h3']
        refine J.eq ret_seq ?_
        refine J.eq go_seq ?_
        refine J.at fun x14 h4 h5 h6 => ?_
        refine J.bind fun x15 h7 => ?_
        have e_h7 := H51_0 _ _ _ h7
        try simp only [NN, NT, LN] at e_h7
        conv => arg 1; simp (disch := first | assumption | decide | with_unfolding_all rfl | omega | (simp only [LN] <;> omega) | (simp only [RO, OF])) only [RR, RM, LN, TT, d52_at, ↓reduceIte, Nat.reduceEqDiff, Nat.reduceLT, Nat.reduceLeDiff, Nat.reduceAdd, Nat.reduceSub, Nat.reduceMul, Nat.reduceMod, Nat.reduceDiv, Nat.reduceBEq, h3'', h3', lm_ik h6, e_h7]
        refine J.eq go_seq ?_
        conv => arg 1; simp (disch := first | assumption | decide | with_unfolding_all rfl | omega | (simp only [LN] <;> omega) | (simp only [RO, OF])) only [RR, RM, LN, TT, d52_at, ↓reduceIte, Nat.reduceEqDiff, Nat.reduceLT, Nat.reduceLeDiff, Nat.reduceAdd, Nat.reduceSub, Nat.reduceMul, Nat.reduceMod, Nat.reduceDiv, Nat.reduceBEq, h3'', h3', lm_ik h6, e_h7]
        refine J.ite (fun h8 => ?_) (fun h8 => ?_)
        · have h8' := decide_eq_true h8
          conv => arg 1; simp (disch := first | assumption | decide | with_unfolding_all rfl | omega | (simp only [LN] <;> omega) | (simp only [RO, OF])) only [RR, RM, LN, TT, d52_at, ↓reduceIte, Nat.reduceEqDiff, Nat.reduceLT, Nat.reduceLeDiff, Nat.reduceAdd, Nat.reduceSub, Nat.reduceMul, Nat.reduceMod, Nat.reduceDiv, Nat.reduceBEq, h3'', h3', lm_ik h6, e_h7, h8']
          refine J.eq ret_seq ?_
          refine J.eq go_seq ?_
          conv => arg 1; simp (disch := first | assumption | decide | with_unfolding_all rfl | omega | (simp only [LN] <;> omega) | (simp only [RO, OF])) only [RR, RM, LN, TT, d52_at, ↓reduceIte, Nat.reduceEqDiff, Nat.reduceLT, Nat.reduceLeDiff, Nat.reduceAdd, Nat.reduceSub, Nat.reduceMul, Nat.reduceMod, Nat.reduceDiv, Nat.reduceBEq, h3'', h3', lm_ik h6, e_h7, h8']
          refine J.ite (fun h9 => ?_) (fun h9 => ?_)
          · have h9' : x9 = true := h9
            conv => arg 1; simp (disch := first | assumption | decide | with_unfolding_all rfl | omega | (simp only [LN] <;> omega) | (simp only [RO, OF])) only [RR, RM, LN, TT, d52_at, ↓reduceIte, Nat.reduceEqDiff, Nat.reduceLT, Nat.reduceLeDiff, Nat.reduceAdd, Nat.reduceSub, Nat.reduceMul, Nat.reduceMod, Nat.reduceDiv, Nat.reduceBEq, h3'', h3', lm_ik h6, e_h7, h8', h9']
            refine J.eq ret_seq ?_
            refine J.chk fun h10 => ?_
            conv => arg 1; simp (disch := first | assumption | decide | with_unfolding_all rfl | omega | (simp only [LN] <;> omega) | (simp only [RO, OF])) only [RR, RM, LN, TT, d52_at, ↓reduceIte, Nat.reduceEqDiff, Nat.reduceLT, Nat.reduceLeDiff, Nat.reduceAdd, Nat.reduceSub, Nat.reduceMul, Nat.reduceMod, Nat.reduceDiv, Nat.reduceBEq, h3'', h3', lm_ik h6, e_h7, h8', h9']
            refine J.eq ret_seq ?_
            conv => arg 1; simp (disch := first | assumption | decide | with_unfolding_all rfl | omega | (simp only [LN] <;> omega) | (simp only [RO, OF])) only [RR, RM, LN, TT, d52_at, ↓reduceIte, Nat.reduceEqDiff, Nat.reduceLT, Nat.reduceLeDiff, Nat.reduceAdd, Nat.reduceSub, Nat.reduceMul, Nat.reduceMod, Nat.reduceDiv, Nat.reduceBEq, h3'', h3', lm_ik h6, e_h7, h8', h9']
            refine J.next (s := (x8.set x15.1.toNat true, true, wk .i64 (x10 + 1))) hn1 ?_ ?_
            · first | rfl | (simp only [LN, NN, NT])
            · first | (simp (disch := first | assumption | decide | with_unfolding_all rfl | omega | (simp only [LN] <;> omega) | (simp only [RO, OF])) only [RR, ↓reduceIte, Nat.reduceEqDiff, Nat.reduceLT, Nat.reduceLeDiff, Nat.reduceAdd, Nat.reduceSub, Nat.reduceMul, Nat.reduceMod, Nat.reduceDiv, Nat.reduceBEq, LN, NN, NT]; done) | rfl
          · have h9' : x9 = false := Bool.eq_false_iff.2 h9
            refine J.at fun x16 h11 h12 h13 => ?_
            conv => arg 1; simp (disch := first | assumption | decide | with_unfolding_all rfl | omega | (simp only [LN] <;> omega) | (simp only [RO, OF])) only [RR, RM, LN, TT, d52_at, ↓reduceIte, Nat.reduceEqDiff, Nat.reduceLT, Nat.reduceLeDiff, Nat.reduceAdd, Nat.reduceSub, Nat.reduceMul, Nat.reduceMod, Nat.reduceDiv, Nat.reduceBEq, h3'', h3', lm_ik h6, e_h7, h8', h9', lm_bk h13]
            refine J.eq ret_seq ?_
            refine J.chk fun h14 => ?_
            conv => arg 1; simp (disch := first | assumption | decide | with_unfolding_all rfl | omega | (simp only [LN] <;> omega) | (simp only [RO, OF])) only [RR, RM, LN, TT, d52_at, ↓reduceIte, Nat.reduceEqDiff, Nat.reduceLT, Nat.reduceLeDiff, Nat.reduceAdd, Nat.reduceSub, Nat.reduceMul, Nat.reduceMod, Nat.reduceDiv, Nat.reduceBEq, h3'', h3', lm_ik h6, e_h7, h8', h9', lm_bk h13]
            refine J.eq ret_seq ?_
            conv => arg 1; simp (disch := first | assumption | decide | with_unfolding_all rfl | omega | (simp only [LN] <;> omega) | (simp only [RO, OF])) only [RR, RM, LN, TT, d52_at, ↓reduceIte, Nat.reduceEqDiff, Nat.reduceLT, Nat.reduceLeDiff, Nat.reduceAdd, Nat.reduceSub, Nat.reduceMul, Nat.reduceMod, Nat.reduceDiv, Nat.reduceBEq, h3'', h3', lm_ik h6, e_h7, h8', h9', lm_bk h13]
            refine J.next (s := (x8.set x15.1.toNat true, x16, wk .i64 (x10 + 1))) hn1 ?_ ?_
            · first | rfl | (simp only [LN, NN, NT])
            · first | (simp (disch := first | assumption | decide | with_unfolding_all rfl | omega | (simp only [LN] <;> omega) | (simp only [RO, OF])) only [RR, ↓reduceIte, Nat.reduceEqDiff, Nat.reduceLT, Nat.reduceLeDiff, Nat.reduceAdd, Nat.reduceSub, Nat.reduceMul, Nat.reduceMod, Nat.reduceDiv, Nat.reduceBEq, LN, NN, NT]; done) | rfl
        · have h8' := decide_eq_false h8
          refine J.some ?_
          simp (disch := first | assumption | decide | with_unfolding_all rfl | omega | (simp only [LN] <;> omega) | (simp only [RO, OF])) only [RR, RM, LN, TT, d52_at, ↓reduceIte, Nat.reduceEqDiff, Nat.reduceLT, Nat.reduceLeDiff, Nat.reduceAdd, Nat.reduceSub, Nat.reduceMul, Nat.reduceMod, Nat.reduceDiv, Nat.reduceBEq, h3'', h3', lm_ik h6, e_h7, h8', FF, LN, NN, NT]
      · have h3' := decide_eq_false h3
        have h3'' : decide ((x1.length : Int) ≤ x10) = true := decide_eq_true (by omega)
        conv => arg 1; simp (disch := first | assumption | decide | with_unfolding_all rfl | omega | (simp only [LN] <;> omega) | (simp only [RO, OF])) only [RR, RM, LN, TT, d52_at, ↓reduceIte, Nat.reduceEqDiff, Nat.reduceLT, Nat.reduceLeDiff, Nat.reduceAdd, Nat.reduceSub, Nat.reduceMul, Nat.reduceMod, Nat.reduceDiv, Nat.reduceBEq, h3'', h3']
        refine J.jmp (t := (x8, x9)) hj2 ?_ ?_
        · first | rfl | (simp only [LN, NN, NT])
        · first | (simp (disch := first | assumption | decide | with_unfolding_all rfl | omega | (simp only [LN] <;> omega) | (simp only [RO, OF])) only [RR, ↓reduceIte, Nat.reduceEqDiff, Nat.reduceLT, Nat.reduceLeDiff, Nat.reduceAdd, Nat.reduceSub, Nat.reduceMul, Nat.reduceMod, Nat.reduceDiv, Nat.reduceBEq, LN, NN, NT]; done) | rfl
  · refine J.eq go_seq ?_
    conv => arg 1; simp (disch := first | assumption | decide | with_unfolding_all rfl | omega | (simp only [LN] <;> omega) | (simp only [RO, OF])) only [RR, RM, LN, TT, d52_at, ↓reduceIte, Nat.reduceEqDiff, Nat.reduceLT, Nat.reduceLeDiff, Nat.reduceAdd, Nat.reduceSub, Nat.reduceMul, Nat.reduceMod, Nat.reduceDiv, Nat.reduceBEq]
    refine J.ite (fun h15 => ?_) (fun h15 => ?_)
    · have h15' := decide_eq_true h15
      have h15'' : decide (0 ≤ x2) = false := decide_eq_false (by omega)
      conv => arg 1; simp (disch := first | assumption | decide | with_unfolding_all rfl | omega | (simp only [LN] <;> omega) | (simp only [RO, OF])) only [RR, RM, LN, TT, d52_at, ↓reduceIte, Nat.reduceEqDiff, Nat.reduceLT, Nat.reduceLeDiff, Nat.reduceAdd, Nat.reduceSub, Nat.reduceMul, Nat.reduceMod, Nat.reduceDiv, Nat.reduceBEq, h15'', h15']
      refine J.eq ret_seq ?_
      refine J.some ?_
      simp (disch := first | assumption | decide | with_unfolding_all rfl | omega | (simp only [LN] <;> omega) | (simp only [RO, OF])) only [RR, RM, LN, TT, d52_at, ↓reduceIte, Nat.reduceEqDiff, Nat.reduceLT, Nat.reduceLeDiff, Nat.reduceAdd, Nat.reduceSub, Nat.reduceMul, Nat.reduceMod, Nat.reduceDiv, Nat.reduceBEq, h15'', h15', FF, LN, NN, NT]
    · have h15' := decide_eq_false h15
      have h15'' : decide (0 ≤ x2) = true := decide_eq_true (by omega)
      conv => arg 1; simp (disch := first | assumption | decide | with_unfolding_all rfl | omega | (simp only [LN] <;> omega) | (simp only [RO, OF])) only [RR, RM, LN, TT, d52_at, ↓reduceIte, Nat.reduceEqDiff, Nat.reduceLT, Nat.reduceLeDiff, Nat.reduceAdd, Nat.reduceSub, Nat.reduceMul, Nat.reduceMod, Nat.reduceDiv, Nat.reduceBEq, h15'', h15']
      refine J.eq ret_seq ?_
      conv => arg 1; simp (disch := first | assumption | decide | with_unfolding_all rfl | omega | (simp only [LN] <;> omega) | (simp only [RO, OF])) only [RR, RM, LN, TT, d52_at, ↓reduceIte, Nat.reduceEqDiff, Nat.reduceLT, Nat.reduceLeDiff, Nat.reduceAdd, Nat.reduceSub, Nat.reduceMul, Nat.reduceMod, Nat.reduceDiv, Nat.reduceBEq, h15'', h15']
      refine J.ite (fun h16 => ?_) (fun h16 => ?_)
      · have h16' := decide_eq_true h16
        have h16'' : decide (x2 ≤ 8) = false := decide_eq_false (by omega)
        refine J.some ?_
        simp (disch := first | assumption | decide | with_unfolding_all rfl | omega | (simp only [LN] <;> omega) | (simp only [RO, OF])) only [RR, RM, LN, TT, d52_at, ↓reduceIte, Nat.reduceEqDiff, Nat.reduceLT, Nat.reduceLeDiff, Nat.reduceAdd, Nat.reduceSub, Nat.reduceMul, Nat.reduceMod, Nat.reduceDiv, Nat.reduceBEq, h15'', h15', h16'', h16', FF, LN, NN, NT]
      · have h16' := decide_eq_false h16
        have h16'' : decide (x2 ≤ 8) = true := decide_eq_true (by omega)
        conv => arg 1; simp (disch := first | assumption | decide | with_unfolding_all rfl | omega | (simp only [LN] <;> omega) | (simp only [RO, OF])) only [RR, RM, LN, TT, d52_at, ↓reduceIte, Nat.reduceEqDiff, Nat.reduceLT, Nat.reduceLeDiff, Nat.reduceAdd, Nat.reduceSub, Nat.reduceMul, Nat.reduceMod, Nat.reduceDiv, Nat.reduceBEq, h15'', h15', h16'', h16']
        refine J.jmp (t := ()) hj1 ?_ ?_
        · first | rfl | (simp only [LN, NN, NT])
        · first | (simp (disch := first | assumption | decide | with_unfolding_all rfl | omega | (simp only [LN] <;> omega) | (simp only [RO, OF])) only [RR, ↓reduceIte, Nat.reduceEqDiff, Nat.reduceLT, Nat.reduceLeDiff, Nat.reduceAdd, Nat.reduceSub, Nat.reduceMul, Nat.reduceMod, Nat.reduceDiv, Nat.reduceBEq, LN, NN, NT]; done) | rfl
noncomputable def t52 (fu : Nat) : CallP := orE 51 (mkC (fun (t : Int × Int) => ([.v (.int .i64 t.1), .v (.int .i64 t.2)] : List AV)) (fun t => shape_Axis fu t.1 t.2) e51) (noP)
theorem t52_ok (fu : Nat) : CpOK Try.prog (t52 fu ) := orE_ok (noP_ok) (mkC_ok (fun t b h => ok51 fu t.1 t.2  b h))
theorem ok52 (fu : Nat) (x1 : List Int) (x2 : Int) (r) (h : shape_Axes fu x1 x2 = some r) : PureOK Try.prog 52 [.arr x1.length (lm (ik .i64) x1), .v (.int .i64 x2)] (e52 r) :=
  pure_J mixed (cp := t52 fu ) (t52_ok fu  ) noI_ok i52 (w52 _ fu x1 x2  (fun a0 a1 r h => orE_hit (mkC_at (a := (a0, a1)) (by intro a b h; first | (exact rfl) | (simp only [INJ] at h; first | exact h | (simp_all [Prod.ext_iff]) )) h))) h
/-! 23: lattice/latticeref04.SameInts -/
def d23 : List (Nat × List Nat) := [(0, [4]), (0, [0, 1, 5]), (0, [6, 7, 8, 9]), (0, []), (0, []), (0, []), (0, []), (0, []), (0, [11, 12, 13]), (0, []), (0, [15, 16]), (0, []), (9, [17, 18, 19, 20, 21, 22, 23, 24]), (0, []), (0, []), (0, []), (0, [])]
def d23_at := And.intro (show d23.getD 0 (0, []) = (0, [4]) from rfl) <| And.intro (show d23.getD 1 (0, []) = (0, [0, 1, 5]) from rfl) <| And.intro (show d23.getD 2 (0, []) = (0, [6, 7, 8, 9]) from rfl) <| And.intro (show d23.getD 3 (0, []) = (0, []) from rfl) <| And.intro (show d23.getD 4 (0, []) = (0, []) from rfl) <| And.intro (show d23.getD 5 (0, []) = (0, []) from rfl) <| And.intro (show d23.getD 6 (0, []) = (0, []) from rfl) <| And.intro (show d23.getD 7 (0, []) = (0, []) from rfl) <| And.intro (show d23.getD 8 (0, []) = (0, [11, 12, 13]) from rfl) <| And.intro (show d23.getD 9 (0, []) = (0, []) from rfl) <| And.intro (show d23.getD 10 (0, []) = (0, [15, 16]) from rfl) <| And.intro (show d23.getD 11 (0, []) = (0, []) from rfl) <| And.intro (show d23.getD 12 (0, []) = (9, [17, 18, 19, 20, 21, 22, 23, 24]) from rfl) <| And.intro (show d23.getD 13 (0, []) = (0, []) from rfl) <| And.intro (show d23.getD 14 (0, []) = (0, []) from rfl) <| And.intro (show d23.getD 15 (0, []) = (0, []) from rfl) <| (show d23.getD 16 (0, []) = (0, []) from rfl)
theorem i23 : finfo Try.prog 23 d23 = some ⟨bodyOf Try.f23, [.tmp 4], [4]⟩ := finfo_at Try.func23 rfl (by kernel_rfl) (by kernel_rfl)
def e23 : Bool → AV := fun r => .v (.bool r)
set_option maxHeartbeats 1000000 in
theorem w23 (cp : CallP) (fu : Nat) (x1 : List Int) (x2 : List Int) : J (go Try.prog noC cp noI 0 [] d23 fu (fin Try.prog [.tmp 4] [4]) (bodyOf Try.f23) (initE 0 [.arr x1.length (lm (ik .i64) x1), .arr x2.length (lm (ik .i64) x2)]) [] []) (ref04_SameInts fu x1 x2) e23 := by
  unfold ref04_SameInts e23
  conv => arg 1; simp (disch := first | assumption | decide | with_unfolding_all rfl | omega | (simp only [LN] <;> omega) | (simp only [RO, OF])) only [bodyOf, Try.f23, RR, RM, LN, TT, d23_at, ↓reduceIte, Nat.reduceEqDiff, Nat.reduceLT, Nat.reduceLeDiff, Nat.reduceAdd, Nat.reduceSub, Nat.reduceMul, Nat.reduceMod, Nat.reduceDiv, Nat.reduceBEq]
  refine J.eq go_seq ?_
  conv => arg 1; simp (disch := first | assumption | decide | with_unfolding_all rfl | omega | (simp only [LN] <;> omega) | (simp only [RO, OF])) only [RR, RM, LN, TT, d23_at, ↓reduceIte, Nat.reduceEqDiff, Nat.reduceLT, Nat.reduceLeDiff, Nat.reduceAdd, Nat.reduceSub, Nat.reduceMul, Nat.reduceMod, Nat.reduceDiv, Nat.reduceBEq]
  refine J.ite (fun h1 => ?_) (fun h1 => ?_)
  · have h1' := decide_eq_true h1
    conv => arg 1; simp (disch := first | assumption | decide | with_unfolding_all rfl | omega | (simp only [LN] <;> omega) | (simp only [RO, OF])) only [RR, RM, LN, TT, d23_at, ↓reduceIte, Nat.reduceEqDiff, Nat.reduceLT, Nat.reduceLeDiff, Nat.reduceAdd, Nat.reduceSub, Nat.reduceMul, Nat.reduceMod, Nat.reduceDiv, Nat.reduceBEq, h1']
    refine J.eq ret_seq ?_
    refine J.eq go_seq ?_
    conv => arg 1; simp (disch := first | assumption | decide | with_unfolding_all rfl | omega | (simp only [LN] <;> omega) | (simp only [RO, OF])) only [RR, RM, LN, TT, d23_at, ↓reduceIte, Nat.reduceEqDiff, Nat.reduceLT, Nat.reduceLeDiff, Nat.reduceAdd, Nat.reduceSub, Nat.reduceMul, Nat.reduceMod, Nat.reduceDiv, Nat.reduceBEq, h1']
    unfold ref04_SameInts_W1
    refine J.loop (fun (s : Int) => ([(0, .arr x1.length (lm (ik .i64) x1)), (1, .arr x2.length (lm (ik .i64) x2)), (5, .v (.int .i64 s))], [])) (fun next s => ref04_SameInts_L1 fu x1 x2 next s) (s0 := 0) ?_ ?_ ?_
    · first | rfl | (simp only [LN, NN, NT])
    · first | (simp (disch := first | assumption | decide | with_unfolding_all rfl | omega | (simp only [LN] <;> omega) | (simp only [RO, OF])) only [RR, ↓reduceIte, Nat.reduceEqDiff, Nat.reduceLT, Nat.reduceLeDiff, Nat.reduceAdd, Nat.reduceSub, Nat.reduceMul, Nat.reduceMod, Nat.reduceDiv, Nat.reduceBEq, LN, NN, NT]; done) | rfl
    rintro nx1 k1 hn1 x5
    show J _ (ref04_SameInts_L1 fu x1 x2 nx1 x5) _
    unfold ref04_SameInts_L1
    refine J.eq go_seq ?_
    conv => arg 1; simp (disch := first | assumption | decide | with_unfolding_all rfl | omega | (simp only [LN] <;> omega) | (simp only [RO, OF])) only [RR, RM, LN, TT, d23_at, ↓reduceIte, Nat.reduceEqDiff, Nat.reduceLT, Nat.reduceLeDiff, Nat.reduceAdd, Nat.reduceSub, Nat.reduceMul, Nat.reduceMod, Nat.reduceDiv, Nat.reduceBEq, h1']
    refine J.ite (fun h2 => ?_) (fun h2 => ?_)
    · have h2' := decide_eq_true h2
      have h2'' : decide ((x1.length : Int) ≤ x5) = false := decide_eq_false (by omega)
      conv => arg 1; simp (disch := first | assumption | decide | with_unfolding_all rfl | omega | (simp only [LN] <;> omega) | (simp only [RO, OF])) only [RR, RM, LN, TT, d23_at, ↓reduceIte, Nat.reduceEqDiff, Nat.reduceLT, Nat.reduceLeDiff, Nat.reduceAdd, Nat.reduceSub, Nat.reduceMul, Nat.reduceMod, Nat.reduceDiv, Nat.reduceBEq, h1', h2'', h2']
      refine J.eq ret_seq ?_
      refine J.eq go_seq ?_
      refine J.at fun x8 h3 h4 h5 => ?_
      refine J.at fun x9 h6 h7 h8 => ?_
      conv => arg 1; simp (disch := first | assumption | decide | with_unfolding_all rfl | omega | (simp only [LN] <;> omega) | (simp only [RO, OF])) only [RR, RM, LN, TT, d23_at, ↓reduceIte, Nat.reduceEqDiff, Nat.reduceLT, Nat.reduceLeDiff, Nat.reduceAdd, Nat.reduceSub, Nat.reduceMul, Nat.reduceMod, Nat.reduceDiv, Nat.reduceBEq, h1', h2'', h2', lm_ik h5, lm_ik h8]
      refine J.ite (fun h9 => ?_) (fun h9 => ?_)
      · have h9' := decide_eq_true h9
        conv => arg 1; simp (disch := first | assumption | decide | with_unfolding_all rfl | omega | (simp only [LN] <;> omega) | (simp only [RO, OF])) only [RR, RM, LN, TT, d23_at, ↓reduceIte, Nat.reduceEqDiff, Nat.reduceLT, Nat.reduceLeDiff, Nat.reduceAdd, Nat.reduceSub, Nat.reduceMul, Nat.reduceMod, Nat.reduceDiv, Nat.reduceBEq, h1', h2'', h2', lm_ik h5, lm_ik h8, h9']
        refine J.eq ret_seq ?_
        conv => arg 1; simp (disch := first | assumption | decide | with_unfolding_all rfl | omega | (simp only [LN] <;> omega) | (simp only [RO, OF])) only [RR, RM, LN, TT, d23_at, ↓reduceIte, Nat.reduceEqDiff, Nat.reduceLT, Nat.reduceLeDiff, Nat.reduceAdd, Nat.reduceSub, Nat.reduceMul, Nat.reduceMod, Nat.reduceDiv, Nat.reduceBEq, h1', h2'', h2', lm_ik h5, lm_ik h8, h9']
        refine J.next (s := wk .i64 (x5 + 1)) hn1 ?_ ?_
        · first | rfl | (simp only [LN, NN, NT])
        · first | (simp (disch := first | assumption | decide | with_unfolding_all rfl | omega | (simp only [LN] <;> omega) | (simp only [RO, OF])) only [RR, ↓reduceIte, Nat.reduceEqDiff, Nat.reduceLT, Nat.reduceLeDiff, Nat.reduceAdd, Nat.reduceSub, Nat.reduceMul, Nat.reduceMod, Nat.reduceDiv, Nat.reduceBEq, LN, NN, NT]; done) | rfl
      · have h9' := decide_eq_false h9
        refine J.some ?_
        simp (disch := first | assumption | decide | with_unfolding_all rfl | omega | (simp only [LN] <;> omega) | (simp only [RO, OF])) only [RR, RM, LN, TT, d23_at, ↓reduceIte, Nat.reduceEqDiff, Nat.reduceLT, Nat.reduceLeDiff, Nat.reduceAdd, Nat.reduceSub, Nat.reduceMul, Nat.reduceMod, Nat.reduceDiv, Nat.reduceBEq, h1', h2'', h2', lm_ik h5, lm_ik h8, h9', FF, LN, NN, NT]
    · have h2' := decide_eq_false h2
      have h2'' : decide ((x1.length : Int) ≤ x5) = true := decide_eq_true (by omega)
      conv => arg 1; simp (disch := first | assumption | decide | with_unfolding_all rfl | omega | (simp only [LN] <;> omega) | (simp only [RO, OF])) only [RR, RM, LN, TT, d23_at, ↓reduceIte, Nat.reduceEqDiff, Nat.reduceLT, Nat.reduceLeDiff, Nat.reduceAdd, Nat.reduceSub, Nat.reduceMul, Nat.reduceMod, Nat.reduceDiv, Nat.reduceBEq, h1', h2'', h2']
      refine J.eq ret_seq ?_
      refine J.some ?_
      simp (disch := first | assumption | decide | with_unfolding_all rfl | omega | (simp only [LN] <;> omega) | (simp only [RO, OF])) only [RR, RM, LN, TT, d23_at, ↓reduceIte, Nat.reduceEqDiff, Nat.reduceLT, Nat.reduceLeDiff, Nat.reduceAdd, Nat.reduceSub, Nat.reduceMul, Nat.reduceMod, Nat.reduceDiv, Nat.reduceBEq, h1', h2'', h2', FF, LN, NN, NT]
  · have h1' := decide_eq_false h1
    refine J.some ?_
    simp (disch := first | assumption | decide | with_unfolding_all rfl | omega | (simp only [LN] <;> omega) | (simp only [RO, OF])) only [RR, RM, LN, TT, d23_at, ↓reduceIte, Nat.reduceEqDiff, Nat.reduceLT, Nat.reduceLeDiff, Nat.reduceAdd, Nat.reduceSub, Nat.reduceMul, Nat.reduceMod, Nat.reduceDiv, Nat.reduceBEq, h1', FF, LN, NN, NT]
noncomputable def t23 (fu : Nat) : CallP := noP
theorem t23_ok (fu : Nat) : CpOK Try.prog (t23 fu ) := noP_ok
theorem ok23 (fu : Nat) (x1 : List Int) (x2 : List Int) (r) (h : ref04_SameInts fu x1 x2 = some r) : PureOK Try.prog 23 [.arr x1.length (lm (ik .i64) x1), .arr x2.length (lm (ik .i64) x2)] (e23 r) :=
  pure_J mixed (cp := t23 fu ) (t23_ok fu  ) noI_ok i23 (w23 _ fu x1 x2  ) h
end Go.Av
