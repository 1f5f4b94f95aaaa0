/- A region with a store among the quiet operations of its head, in walks. Conditions: those that each names. -/
import Derived.Test.YteafmomjfnlkgaaGreatSl
set_option linter.unusedVariables false
set_option linter.defProp false
namespace Go.Av
section
variable (P : Program) (C : Cfg) (cp : CallP) (ci : CallI) (lvl : Nat) (prot : List Id) (D : List (Nat × List Nat)) (n : Nat) (K : KK)
end
section
variable {P : Program} {C : Cfg} {cp : CallP} {ci : CallI} {lvl : Nat} {prot : List Id} {D : List (Nat × List Nat)} {n : Nat} {K : KK}
variable {e : Env} {h : Heap} {fs : List Fr} {all os : List Oper} {dr : Nat × List Nat} {m p k i ps qs : Nat}
end
section
variable (P : Program) (C : Cfg) (cp : CallP) (ci : CallI) (lvl : Nat) (prot : List Id) (D : List (Nat × List Nat)) (n : Nat) (K : KK) (G : Id → Option Blk)
end
section
variable {P : Program} {C : Cfg} {cp : CallP} {ci : CallI} {lvl : Nat} {prot : List Id} {D : List (Nat × List Nat)} {n : Nat} {K : KK} {G : Id → Option Blk}
variable {e : Env} {h : Heap} {fs : List Fr} {all os : List Oper} {dr : Nat × List Nat} {m p k i ps qs : Nat}
end
section
variable {P : Program} {C : Cfg} {cp : CallP} {ci : CallI} {lvl : Nat} {prot : List Id} {D : List (Nat × List Nat)} {n : Nat} {K : KK} {G : Id → Option Blk}
variable {e : Env} {h : Heap} {fs : List Fr} {all os : List Oper} {dr : Nat × List Nat} {m p k i ps qs : Nat}
end
def AllAt (D : List (Nat × List Nat)) : Nat → List (Nat × List Nat) → Prop
  | _, [] => True
  | i, [x] => D.getD i (0, []) = x
  | i, x :: y :: l => D.getD i (0, []) = x ∧ AllAt D (i + 1) (y :: l)
theorem allAt_of {D : List (Nat × List Nat)} : ∀ (l : List (Nat × List Nat)) (i : Nat), D.drop i = l → AllAt D i l
  | [], _, _ => trivial
  | [x], i, h => by
    show D.getD i (0, []) = x
    rw [List.getD_eq_getElem?_getD, show D[i]? = (D.drop i)[0]? by simp, h]; rfl
  | x :: y :: l, i, h => by
    refine ⟨?_, allAt_of (y :: l) (i + 1) ?_⟩
    · rw [List.getD_eq_getElem?_getD, show D[i]? = (D.drop i)[0]? by simp, h]; rfl
    · rw [← List.drop_drop, h]; rfl
theorem tabL {D l : List (Nat × List Nat)} (h : D = l) : AllAt D 0 l := allAt_of l 0 h
def DT := And.intro @decide_true @decide_false
section
variable {P : Program}
def plainV : TV → Bool
  | .struct => false
  | .array _ _ _ => false
  | _ => true
theorem ptW {t : TypeId} {v : TV} (hv : tview P t = some v) (hp : plainV v = true) : ∀ {xs : List AV} {off : Nat}, part P xs t off = xs[off]? := fun {xs off} => by
  refine part_one (fun _ _ h => ?_) ?_
  · rw [hv] at h; cases h; cases hp
  · rw [hv]; cases v <;> first | trivial | cases hp
theorem fpW {s : TypeId} {i o : Nat} {ft : TypeId} {w : Nat} (hf : fieldOf P s i = some (o, ft)) (ht : tsize P ft = w) (hw : (w = 0) = False) : ∀ {g : Id → Option Blk} {id : Id} {off ext : Nat}, afield P s g (.ptr id off ext) i = (g id).bind (fiB id off ext o) :=
  af_ptr hf (by rw [ht]; exact hw)
theorem frW {s : TypeId} {i o : Nat} {ft : TypeId} {w : Nat} (hf : fieldOf P s i = some (o, ft)) (ht : tsize P ft = w) (hw : (w = 0) = False) : ∀ {g : Id → Option Blk} {xs : List AV} {off : Nat}, afield P s g (.ref xs off) i = some (.ref xs (off + o)) :=
  af_ref hf (by rw [ht]; exact hw)
theorem flW {t i o : Nat} {ft : TypeId} {w : Nat} (hf : fieldOf P t i = some (o, ft)) (ht : tsize P ft = w) : flP P t i = some (o, w) := by unfold flP; rw [hf]; subst ht; rfl
theorem stW {t : TypeId} (hs : tsize P t = 1) : ∀ {h : Heap} {id : Id} {off ext : Nat} {k : IntKind} {z : Int}, stX P t h (.ptr id off ext) (.v (.int k z)) = (h.get id).bind (stI h id off ext (.v (.int k z))) := stX_int hs
theorem sbW {t : TypeId} (hs : tsize P t = 1) : ∀ {h : Heap} {id : Id} {off ext : Nat} {z : Bool}, stX P t h (.ptr id off ext) (.v (.bool z)) = (h.get id).bind (stI h id off ext (.v (.bool z))) := stX_bool hs
theorem saW {t : TypeId} (hs : tsize P t = 1) : ∀ {h : Heap} {id : Id} {off ext m : Nat} {xs : List AV}, stX P t h (.ptr id off ext) (.arr m xs) = (h.get id).bind (stI h id off ext (.arr m xs)) := stX_arr hs
theorem soW {t : TypeId} (hs : tsize P t = 1) : ∀ {h : Heap} {id j : Id} {off ext o m x : Nat}, stX P t h (.ptr id off ext) (.own j o m x) = (h.get id).bind (stO h id off ext (.own j o m x)) := stX_own hs
theorem iaW {t el : TypeId} {sz by_ : Nat} (hv : tview P t = some (.slice el sz by_)) : ∀ {m : Nat} {xs : List AV} {i : Int} {g : Id → Option Blk}, 0 ≤ i → i < m → aindexAddr P t g (.arr m xs) i = some (.ref xs (i.toNat * sz)) := ia_any hv
theorem ioW {t el : TypeId} {sz by_ : Nat} (hv : tview P t = some (.slice el sz by_)) : ∀ {id : Id} {off m ext : Nat} {i : Int} {g : Id → Option Blk}, aindexAddr P t g (.own id off m ext) i = (g id).bind (iaB id off m ext sz i) := ia_own hv
theorem leW {t el : TypeId} {sz by_ : Nat} (hv : tview P t = some (.slice el sz by_)) : ∀ {x : AV}, abuiltin P .len #[t] [x] = (alen x).bind fun n => some (.v (.int .i64 n)) := len_at hv
theorem alW {t : TypeId} {z : List AV} (hz : tzero P t = some z) : ∀ {C : Cfg} {cp : CallP} {ci : CallI} {lvl : Nat} {e : Env} {h : Heap} {d : Option Tmp}, aop P C cp ci lvl e h d (.alloc t) = qo lvl (d.getD 0) h (some (.newbx z)) := aop_alloc hz
theorem aqW {t : TypeId} {z : List AV} (hz : tzero P t = some z) : ∀ {C : Cfg} {cp : CallP} {g : Id → Option Blk} {e : Nat → Option AV}, aopQ P C cp e g (.alloc t) = some (.newbx z) := aq_alloc hz
theorem blW {t : TypeId} {z : List AV} (hz : tzero P t = some z) (ht : tview P t = some .struct) : ∀ {parts : List (Nat × AV)}, abuild P t parts = (afill (flP P t) z parts).bind fun xs => some (.agg xs) := bld_struct hz ht
theorem apW {t el : TypeId} {sz by_ : Nat} {z : List AV} (hv : tview P t = some (.slice el sz by_)) (hz : tzero P el = some z) (hl : z.length = sz) (h0 : 0 < sz) : ∀ {lvl d : Nat} {h : Heap} {x y : AV}, appX P lvl d t t h x y = (newsOf h.get y).bind (appN lvl d sz by_ h x y (inner h.get y)) := appX_at hv hz hl h0
theorem bsW {t el : TypeId} {sz by_ : Nat} {z : List AV} (hv : tview P t = some (.slice el sz by_)) (hz : tzero P el = some z) (hl : z.length = sz) (h0 : 0 < sz) : ∀ {len : Nat} {parts : List (Nat × AV)}, len * sz ≤ 16777216 → abuildSlice P t len parts = (afill (elP sz) (List.replicate len z).flatten parts).bind (bslE sz len) := fun h => bsl_at hv hz h hl h0
end
end Go.Av
