/- Lists as the interpreter's data; more equations. Conditions: those that each names. -/
import Derived.Test.YteafmomjfnlkgaaGreatMx
set_option linter.unusedVariables false
set_option linter.defProp false
namespace Go.Av
def ik (k : IntKind) (x : Int) : AV := .v (.int k x)
def bk (b : Bool) : AV := .v (.bool b)
def lm {α : Type} (f : α → AV) (l : List α) : List AV := l.map f
def fm {α : Type} (c : α → List AV) (l : List α) : List AV := l.flatMap c
def avl {α : Type} (f : α → AV) (l : List α) : AV := .arr l.length (lm f l)
def avf {α : Type} (c : α → List AV) (l : List α) : AV := .arr l.length (fm c l)
def frl {α : Type} (f : α → AV) (l : List α) : AV := .fresh 1 l.length (lm f l)
def wk (k : IntKind) (x : Int) : Int := k.wrap x
def band (k : IntKind) (a b : Int) : Int := k.wrap (BitVec.ofInt k.bits a &&& BitVec.ofInt k.bits b).toNat
def bor (k : IntKind) (a b : Int) : Int := k.wrap (BitVec.ofInt k.bits a ||| BitVec.ofInt k.bits b).toNat
def bxor (k : IntKind) (a b : Int) : Int := k.wrap (BitVec.ofInt k.bits a ^^^ BitVec.ofInt k.bits b).toNat
def bandn (k : IntKind) (a b : Int) : Int := k.wrap (BitVec.ofInt k.bits a &&& ~~~BitVec.ofInt k.bits b).toNat
def shlk (k : IntKind) (a b : Int) : Int := k.wrap (a * 2 ^ (min b.toNat k.bits))
def shrk (k : IntKind) (a b : Int) : Int := a.fdiv (2 ^ (min b.toNat k.bits))
def sub {α : Type} (l : List α) (lo hi : Int) : List α := (l.drop lo.toNat).take (hi.toNat - lo.toNat)
section
variable {α : Type} {f : α → AV} {c : α → List AV} {l l' : List α} {x : α} {i : Nat}
theorem lm_length : (lm f l).length = l.length := by simp [lm]
theorem lm_at (h : l[i]? = some x) : (lm f l)[i]? = some (f x) := by simp [lm, h]
theorem lm_ik {l : List Int} {x : Int} {k : IntKind} (h : l[i]? = some x) : (lm (ik k) l)[i]? = some (.v (.int k x)) := lm_at h
theorem lm_bk {l : List Bool} {x : Bool} (h : l[i]? = some x) : (lm bk l)[i]? = some (.v (.bool x)) := lm_at h
theorem lm_avl {l : List (List α)} {x : List α} (h : l[i]? = some x) : (lm (avl f) l)[i]? = some (.arr x.length (lm f x)) := lm_at h
theorem lm_avf {l : List (List α)} {x : List α} (h : l[i]? = some x) : (lm (avf c) l)[i]? = some (.arr x.length (fm c x)) := lm_at h
theorem lm_nil : lm f [] = [] := rfl
theorem lm_cons : lm f (x :: l) = f x :: lm f l := rfl
theorem lm_app : lm f (l ++ l') = lm f l ++ lm f l' := by simp [lm]
theorem lm_setik {l : List Int} {x : Int} {k : IntKind} : (lm (ik k) l).set i (.v (.int k x)) = lm (ik k) (l.set i x) := by simp [lm, ik, List.map_set]
theorem lm_setbk {l : List Bool} {x : Bool} : (lm bk l).set i (.v (.bool x)) = lm bk (l.set i x) := by simp [lm, bk, List.map_set]
theorem lm_setavl {l : List (List α)} {x : List α} : (lm (avl f) l).set i (.arr x.length (lm f x)) = lm (avl f) (l.set i x) := by simp [lm, avl, List.map_set]
theorem ik_at {k : IntKind} {x : Int} : ik k x = .v (.int k x) := rfl
theorem bk_at {b : Bool} : bk b = .v (.bool b) := rfl
theorem fm_length {w : Nat} (hw : ∀ x, (c x).length = w) : (fm c l).length = l.length * w := by
  induction l with
  | nil => simp [fm]
  | cons x l ih => simp only [fm, List.flatMap_cons, List.length_append] at ih ⊢; rw [hw, ih, List.length_cons, Nat.succ_mul]; omega
theorem fm_cut {w : Nat} (hw : ∀ x, (c x).length = w) (h : l[i]? = some x) : ((fm c l).drop (i * w)).take w = c x := by
  induction l generalizing i with
  | nil => simp at h
  | cons y l ih =>
    have hf : fm c (y :: l) = c y ++ fm c l := by simp [fm]
    cases i with
    | zero =>
      simp at h; subst h
      simp [hf, hw]
    | succ i =>
      rw [List.getElem?_cons_succ] at h
      have h2 : (fm c (y :: l)).drop ((i + 1) * w) = (fm c l).drop (i * w) := by
        rw [hf, show (i + 1) * w = (c y).length + i * w by rw [hw, Nat.succ_mul]; omega, ← List.drop_drop, List.drop_left]
      rw [h2]
      exact ih h
theorem fm_fit {w : Nat} (hw : ∀ x, (c x).length = w) (h : l[i]? = some x) : (i * w + w ≤ (fm c l).length) = True := by
  rw [fm_length hw]
  refine eq_true ?_
  have := (List.getElem?_eq_some_iff.1 h).1
  calc i * w + w = (i + 1) * w := by rw [Nat.succ_mul]
    _ ≤ l.length * w := Nat.mul_le_mul_right _ this
theorem fm_at {w j : Nat} (hw : ∀ x, (c x).length = w) (h : l[i]? = some x) (hj : j < w) : (fm c l)[i * w + j]? = (c x)[j]? := by
  rw [← fm_cut hw h, List.getElem?_take, if_pos hj, List.getElem?_drop]
theorem fm_at0 {w : Nat} (hw : ∀ x, (c x).length = w) (h : l[i]? = some x) (hj : 0 < w) : (fm c l)[i * w]? = (c x)[0]? := by
  have := fm_at (j := 0) hw h hj
  simpa using this
theorem fm_nil : fm c [] = [] := rfl
theorem fm_cons : fm c (x :: l) = c x ++ fm c l := by simp [fm]
theorem fm_app : fm c (l ++ l') = fm c l ++ fm c l' := by simp [fm]
end
section
variable {x y : Int} {k : IntKind}
theorem bw_add : abinI .add k k x y = some (.v (.int k (wk k (x + y)))) := by simp [abinI, BinOp.isSh, BinOp.isCmp, arithA, wk]
theorem bw_sub : abinI .sub k k x y = some (.v (.int k (wk k (x - y)))) := by simp [abinI, BinOp.isSh, BinOp.isCmp, arithA, wk]
theorem bw_mul : abinI .mul k k x y = some (.v (.int k (wk k (x * y)))) := by simp [abinI, BinOp.isSh, BinOp.isCmp, arithA, wk]
theorem bw_quo (h : y ≠ 0) : abinI .quo k k x y = some (.v (.int k (wk k (x.tdiv y)))) := by simp [abinI, BinOp.isSh, BinOp.isCmp, arithA, wk, h]
theorem bw_rem (h : y ≠ 0) : abinI .rem k k x y = some (.v (.int k (x.tmod y))) := by simp [abinI, BinOp.isSh, BinOp.isCmp, arithA, h]
theorem bw_and : abinI .and k k x y = some (.v (.int k (band k x y))) := by simp [abinI, BinOp.isSh, BinOp.isCmp, arithA, bitsA, band]
theorem bw_or : abinI .or k k x y = some (.v (.int k (bor k x y))) := by simp [abinI, BinOp.isSh, BinOp.isCmp, arithA, bitsA, bor]
theorem bw_xor : abinI .xor k k x y = some (.v (.int k (bxor k x y))) := by simp [abinI, BinOp.isSh, BinOp.isCmp, arithA, bitsA, bxor]
theorem bw_andn : abinI .andNot k k x y = some (.v (.int k (bandn k x y))) := by simp [abinI, BinOp.isSh, BinOp.isCmp, arithA, bitsA, bandn]
theorem bw_shl {k' : IntKind} (h : 0 ≤ y) : abinI .shl k k' x y = some (.v (.int k (shlk k x y))) := by
  have : ¬ y < 0 := by omega
  simp [abinI, BinOp.isSh, shA, shlk, this]
theorem bw_shr {k' : IntKind} (h : 0 ≤ y) : abinI .shr k k' x y = some (.v (.int k (shrk k x y))) := by
  have : ¬ y < 0 := by omega
  simp [abinI, BinOp.isSh, shA, shrk, this]
theorem wk_i64 (h1 : -9223372036854775808 ≤ x) (h2 : x < 9223372036854775808) : wk .i64 x = x := wrap64 h1 h2
variable {b b' : Bool}
theorem au_not : aun .not (.v (.bool b)) = some (.v (.bool !b)) := rfl
theorem au_neg : aun .neg (.v (.int k x)) = some (.v (.int k (wk k (0 - x)))) := rfl
theorem ab_eql : abinB .eql b b' = some (.v (.bool (b == b'))) := rfl
theorem ab_neq : abinB .neq b b' = some (.v (.bool (!(b == b')))) := rfl
end
section
variable {P : Program} {C : Cfg} {cp : CallP} {ci : CallI} {lvl n : Nat} {e : Env} {h : Heap} {g : Id → Option Blk} {α : Type} {f : α → AV} {c : α → List AV} {l : List α}
theorem ldB_sl {t : TypeId} {off ext : Nat} {cl rw sz cells} : ldB P t off ext (.sl cl rw sz ext cells) = part P cells t off := by simp [ldB, Blk.ext, Blk.cells]
theorem ldB_bx {t : TypeId} {off : Nat} {rw cells} : ldB P t off 0 (.bx rw cells) = part P cells t off := by simp [ldB, Blk.ext, Blk.cells]
def fiB (id : Id) (off ext : Nat) (o : Nat) (b : Blk) : Option AV := if b.ext == ext then some (.ptr id (off + o) ext) else none
theorem af_ptr {s : TypeId} {i o : Nat} {ft : TypeId} {id : Id} {off ext : Nat} (hf : fieldOf P s i = some (o, ft)) (ht : (tsize P ft = 0) = False) : afield P s g (.ptr id off ext) i = (g id).bind (fiB id off ext o) := by
  simp only [afield, hf, ob_some, ht, if_false]
  have : ∀ b, g id = b → (if live g id ext = true then some (AV.ptr id (off + o) ext) else none) = b.bind (fiB id off ext o) := fun b hb => by
    unfold live
    rw [hb]
    cases b <;> rfl
  exact this _ rfl
theorem af_ref {s : TypeId} {i o : Nat} {ft : TypeId} {xs : List AV} {off : Nat} (hf : fieldOf P s i = some (o, ft)) (ht : (tsize P ft = 0) = False) : afield P s g (.ref xs off) i = some (.ref xs (off + o)) := by
  simp only [afield, hf, ob_some, ht, if_false]
theorem fiB_sl {id : Id} {off ext o : Nat} {cl rw sz cells} : fiB id off ext o (.sl cl rw sz ext cells) = some (.ptr id (off + o) ext) := by simp [fiB, Blk.ext]
theorem fiB_bx {id : Id} {off o : Nat} {rw cells} : fiB id off 0 o (.bx rw cells) = some (.ptr id (off + o) 0) := by simp [fiB, Blk.ext]
theorem part_one {t : TypeId} {xs : List AV} {off : Nat} (h1 : ∀ y z, tview P t ≠ some (.array y t z)) (hs : match tview P t with | some .struct => False | some (.array _ _ _) => False | none => False | _ => True) : part P xs t off = xs[off]? := by
  unfold part
  cases ht : tview P t with
  | none => rw [ht] at hs; exact hs.elim
  | some tv => rw [ht] at hs; cases tv <;> first | rfl | exact hs.elim
theorem part_struct {t : TypeId} {w : Nat} {xs : List AV} {off : Nat} (ht : tview P t = some .struct) (hw : tsize P t = w) : part P xs t off = if off + w ≤ xs.length then some (.agg ((xs.drop off).take w)) else none := by
  simp [part, ht, hw]
theorem ia_any {t el : TypeId} {sz by_ m : Nat} {xs : List AV} {i : Int} (htv : tview P t = some (.slice el sz by_)) (h0 : 0 ≤ i) (h1 : i < m) : aindexAddr P t g (.arr m xs) i = some (.ref xs (i.toNat * sz)) := ia_arr htv h0 h1
theorem stX_any {t : TypeId} {id : Id} {off ext : Nat} {y : AV} (hsz : tsize P t = 1) (hc : y.cells = [y]) (h1 : AV.one y = true) (he : exportV h.get 4 y = some y) (hb : borrowed h.get 4 y = []) :
    stX P t h (.ptr id off ext) y = (h.get id).bind (stI h id off ext y) := by
  unfold stX
  rw [if_pos ⟨by rw [hsz, hc]; rfl, by rw [hsz]; exact Nat.one_pos⟩]
  cases hg : h.get id with
  | none => simp [astore, hg]
  | some b =>
    rw [ob_some]
    have h2 : ([y].mapM (exportV h.get 4)) = some [y] := by simp [he]
    have h3 : (([y].map (borrowed h.get 4)).flatten) = [] := by simp [hb]
    have e1 : ∀ o c : Nat, (o + 1 ≤ c) = (o < c) := fun _ _ => rfl
    cases b with
    | bx rw cells =>
      have e0 : ((0 : Nat) = ext) = (ext = 0) := propext ⟨Eq.symm, Eq.symm⟩
      simp only [astore, hg, ob_some, hc, Blk.ext, Blk.cells, List.length_cons, List.length_nil, List.all_cons, List.all_nil, h1, Bool.and_self, and_true, Nat.zero_add, e1, e0]
      cases rw with
      | false => by_cases hh : ext = 0 ∧ off < cells.length <;> simp [hh, stI]
      | true => by_cases hh : ext = 0 ∧ off < cells.length <;> simp [hh, stI, putCells]
    | sl cl rw sz e cells =>
      simp only [astore, hg, ob_some, hc, Blk.ext, Blk.cells, List.length_cons, List.length_nil, List.all_cons, List.all_nil, h1, Bool.and_self, and_true, Nat.zero_add, e1, h2, h3, freezeAll]
      cases cl <;> cases rw <;> by_cases hh : e = ext ∧ off < cells.length <;> simp [hh, stI, putCells]
theorem stX_bool {t : TypeId} {id : Id} {off ext : Nat} {z : Bool} (hsz : tsize P t = 1) : stX P t h (.ptr id off ext) (.v (.bool z)) = (h.get id).bind (stI h id off ext (.v (.bool z))) :=
  stX_any hsz rfl rfl rfl rfl
theorem stX_arr {t : TypeId} {id : Id} {off ext m : Nat} {xs : List AV} (hsz : tsize P t = 1) : stX P t h (.ptr id off ext) (.arr m xs) = (h.get id).bind (stI h id off ext (.arr m xs)) :=
  stX_any hsz rfl rfl rfl rfl
def stO (h : Heap) (id : Id) (off ext : Nat) (y : AV) : Blk → Option (AV × Heap)
  | .bx true cells => if ext = 0 ∧ off < cells.length then some (.v undef, h.set id (.bx true (cells.set off y))) else none
  | .sl false true sz e cells => if e = ext ∧ off < cells.length then some (.v undef, h.set id (.sl false true sz e (cells.set off y))) else none
  | .sl true true sz e cells => if e = ext ∧ off < cells.length then (exportV h.get 4 y).bind fun z => ((freezeAll h (borrowed h.get 4 y)).get id).bind fun b => match b with
      | .sl true true sz e cells => some (.v undef, (freezeAll h (borrowed h.get 4 y)).set id (.sl true true sz e (cells.set off z)))
      | _ => none
    else none
  | _ => none
theorem stX_own {t : TypeId} {id : Id} {off ext : Nat} {j : Id} {o m x : Nat} (hsz : tsize P t = 1) : stX P t h (.ptr id off ext) (.own j o m x) = (h.get id).bind (stO h id off ext (.own j o m x)) := by
  unfold stX
  rw [if_pos ⟨by rw [hsz]; rfl, by rw [hsz]; exact Nat.one_pos⟩]
  have hc : (AV.own j o m x).cells = [.own j o m x] := rfl
  have e1 : ∀ o c : Nat, (o + 1 ≤ c) = (o < c) := fun _ _ => rfl
  cases hg : h.get id with
  | none => simp [astore, hg]
  | some b =>
    rw [ob_some]
    cases b with
    | bx rw cells =>
      have e0 : ((0 : Nat) = ext) = (ext = 0) := propext ⟨Eq.symm, Eq.symm⟩
      simp only [astore, hg, ob_some, hc, Blk.ext, Blk.cells, List.length_cons, List.length_nil, List.all_cons, List.all_nil, AV.one, Bool.and_self, and_true, Nat.zero_add, e1, e0]
      cases rw with
      | false => by_cases hh : ext = 0 ∧ off < cells.length <;> simp [hh, stO]
      | true => by_cases hh : ext = 0 ∧ off < cells.length <;> simp [hh, stO, putCells]
    | sl cl rw sz e cells =>
      simp only [astore, hg, ob_some, hc, Blk.ext, Blk.cells, List.length_cons, List.length_nil, List.all_cons, List.all_nil, AV.one, Bool.and_self, and_true, Nat.zero_add, e1]
      cases cl <;> cases rw <;> by_cases hh : e = ext ∧ off < cells.length <;> simp only [hh, stO, and_self, if_true, if_false, ob_some, ob_none] <;> try (simp [putCells]; done)
      simp only [List.map_cons, List.map_nil, List.flatten_cons, List.flatten_nil, List.append_nil, List.mapM_cons, List.mapM_nil]
      cases exportV h.get 4 (.own j o m x) with
      | none => rfl
      | some z =>
        simp only [ob_some]
        show Option.bind (Option.bind (Heap.get (freezeAll h (borrowed h.get 4 (.own j o m x))) id) _) _ = _
        cases Heap.get (freezeAll h (borrowed h.get 4 (.own j o m x))) id with
        | none => rfl
        | some b =>
          simp only [ob_some]
          cases b with
          | bx => rfl
          | sl c2 r2 => cases c2 <;> cases r2 <;> rfl
def stG (h : Heap) (id : Id) (off ext : Nat) (ys : List AV) : Blk → Option (AV × Heap)
  | .bx true cells => if ext = 0 ∧ off + ys.length ≤ cells.length then some (.v undef, h.set id (.bx true (putCells cells off ys))) else none
  | _ => none
theorem stX_agg {t : TypeId} {id : Id} {off ext : Nat} {ys : List AV} {rw : Bool} {cells : List AV} (hsz : tsize P t = ys.length) (h0 : 0 < ys.length) (h1 : ys.all AV.one = true) (hg : h.get id = some (.bx rw cells)) :
    stX P t h (.ptr id off ext) (.agg ys) = stG h id off ext ys (.bx rw cells) := by
  unfold stX
  rw [if_pos ⟨by rw [hsz]; rfl, by rw [hsz]; exact h0⟩]
  have hc : (AV.agg ys).cells = ys := rfl
  have e0 : ((0 : Nat) = ext) = (ext = 0) := propext ⟨Eq.symm, Eq.symm⟩
  simp only [astore, hg, ob_some, hc, Blk.ext, Blk.cells, h1, and_true, e0]
  cases rw with
  | false => by_cases hh : ext = 0 ∧ off + ys.length ≤ cells.length <;> simp [hh, stG]
  | true => by_cases hh : ext = 0 ∧ off + ys.length ≤ cells.length <;> simp [hh, stG]
theorem stI_sl {id : Id} {off ext : Nat} {y : AV} {cl : Bool} {sz : Nat} {cells : List AV} (ho : off < cells.length) : stI h id off ext y (.sl cl true sz ext cells) = some (.v undef, h.set id (.sl cl true sz ext (cells.set off y))) := by
  cases cl <;> simp [stI, ho]
theorem stI_bx {id : Id} {off : Nat} {y : AV} {cells : List AV} (ho : off < cells.length) : stI h id off 0 y (.bx true cells) = some (.v undef, h.set id (.bx true (cells.set off y))) := by
  simp [stI, ho]
theorem stO_bx {id : Id} {off : Nat} {y : AV} {cells : List AV} (ho : off < cells.length) : stO h id off 0 y (.bx true cells) = some (.v undef, h.set id (.bx true (cells.set off y))) := by
  simp [stO, ho]
theorem stG_bx {id : Id} {off : Nat} {ys : List AV} {cells : List AV} (ho : off + ys.length ≤ cells.length) : stG h id off 0 ys (.bx true cells) = some (.v undef, h.set id (.bx true (putCells cells off ys))) := by
  simp [stG, ho]
theorem putCells_nil {cells : List AV} {off : Nat} : putCells cells off [] = cells := rfl
theorem putCells_cons {cells : List AV} {off : Nat} {y : AV} {ys : List AV} : putCells cells off (y :: ys) = putCells (cells.set off y) (off + 1) ys := rfl
theorem imp_v {s d : Nat} {x : Value} {st : Nat × Heap} : importR lvl s d (.v x) st = some (.v x, st) := by cases d <;> rfl
theorem imp_arr {s d m : Nat} {xs : List AV} {st : Nat × Heap} : importR lvl s d (.arr m xs) st = some (.arr m xs, st) := by cases d <;> rfl
theorem imp_own {s d o m x : Nat} {id : Id} {st : Nat × Heap} : importR lvl s d (.own id o m x) st = some (.own id o m x, st) := by cases d <;> rfl
theorem imp_ptr {s d o x : Nat} {id : Id} {st : Nat × Heap} : importR lvl s d (.ptr id o x) st = some (.ptr id o x, st) := by cases d <;> rfl
theorem imp_ref {s d o : Nat} {xs : List AV} {st : Nat × Heap} : importR lvl s d (.ref xs o) st = some (.ref xs o, st) := by cases d <;> rfl
theorem imp_fn {s d : Nat} {k a b} {st : Nat × Heap} : importR lvl s d (.fn k a b) st = some (.fn k a b, st) := by cases d <;> rfl
theorem imp_fresh {s d sz m k : Nat} {xs : List AV} : importR lvl s d (.fresh sz m xs) (k, h) = (freB true lvl s k h sz m xs (h.get (lvl, s, k))).bind fun r => some (r.1, k + 1, r.2) := by
  rw [← freB_eq]
  have : importR lvl s d (.fresh sz m xs) (k, h) = (h.new (lvl, s, freeK h lvl s k) (.sl true true sz m xs)).bind fun h' => some (.own (lvl, s, freeK h lvl s k) 0 m m, k + 1, h') := by cases d <;> rfl
  rw [this]
  cases h.new (lvl, s, freeK h lvl s k) (.sl true true sz m xs) <;> rfl
theorem imp_freshO {s d sz m k : Nat} {xs : List AV} : importR lvl s d (.freshO sz m xs) (k, h) = (freB false lvl s k h sz m xs (h.get (lvl, s, k))).bind fun r => some (r.1, k + 1, r.2) := by
  rw [← freB_eq]
  have : importR lvl s d (.freshO sz m xs) (k, h) = (h.new (lvl, s, freeK h lvl s k) (.sl false true sz m xs)).bind fun h' => some (.own (lvl, s, freeK h lvl s k) 0 m m, k + 1, h') := by cases d <;> rfl
  rw [this]
  cases h.new (lvl, s, freeK h lvl s k) (.sl false true sz m xs) <;> rfl
theorem imp_agg {s d : Nat} {xs : List AV} {st : Nat × Heap} : importR lvl s (d + 1) (.agg xs) st = (mapSt (importR lvl s d) xs st).bind fun r => some (.agg r.1, r.2) := rfl
theorem imp_tuple {s d : Nat} {xs : List AV} {st : Nat × Heap} : importR lvl s (d + 1) (.tuple xs) st = (mapSt (importR lvl s d) xs st).bind fun r => some (.tuple r.1, r.2) := rfl
theorem mapSt_nil {S : Type} {F : AV → S → Option (AV × S)} {s : S} : mapSt F [] s = some ([], s) := rfl
theorem mapSt_cons {S : Type} {F : AV → S → Option (AV × S)} {s : S} {x : AV} {xs : List AV} : mapSt F (x :: xs) s = (F x s).bind fun r => (mapSt F xs r.2).bind fun q => some (r.1 :: q.1, q.2) := rfl
theorem qo_agg {d : Nat} {xs : List AV} : qo lvl d h (some (.agg xs)) = (mapSt (importR lvl d 3) xs (0, h)).bind fun r => some (.agg r.1, r.2.2) := by
  show ((mapSt (importR lvl d 3) xs (0, h)).bind fun r => some (AV.agg r.1, r.2)).bind _ = _
  cases mapSt (importR lvl d 3) xs (0, h) <;> rfl
theorem qo_tuple {d : Nat} {xs : List AV} : qo lvl d h (some (.tuple xs)) = (mapSt (importR lvl d 3) xs (0, h)).bind fun r => some (.tuple r.1, r.2.2) := by
  show ((mapSt (importR lvl d 3) xs (0, h)).bind fun r => some (AV.tuple r.1, r.2)).bind _ = _
  cases mapSt (importR lvl d 3) xs (0, h) <;> rfl
theorem qo_newbx {d : Nat} {xs : List AV} : qo lvl d h (some (.newbx xs)) = (mapSt (importR lvl d 3) xs (0, h)).bind fun r => (r.2.2.new (lvl, d, r.2.1) (.bx true r.1)).bind fun h' => some (.ptr (lvl, d, r.2.1) 0 0, h') := by
  show ((mapSt (importR lvl d 3) xs (0, h)).bind fun r => (r.2.2.new (lvl, d, r.2.1) (.bx true r.1)).bind fun h' => some (AV.ptr (lvl, d, r.2.1) 0 0, r.2.1 + 1, h')).bind _ = _
  cases mapSt (importR lvl d 3) xs (0, h) with
  | none => rfl
  | some r => simp only [ob_some]; cases r.2.2.new (lvl, d, r.2.1) (.bx true r.1) <;> rfl
theorem qo_freshO {d sz m xs} : qo lvl d h (some (.freshO sz m xs)) = freB false lvl d 0 h sz m xs (h.get (lvl, d, 0)) := by
  rw [← freB_eq]
  simp only [qo, importR]
  cases h.new (lvl, d, freeK h lvl d 0) (.sl false true sz m xs) <;> rfl
theorem aop_alloc {d : Option Tmp} {t : TypeId} {z : List AV} (hz : tzero P t = some z) : aop P C cp ci lvl e h d (.alloc t) = qo lvl (d.getD 0) h (some (.newbx z)) := by
  rw [aop_any (fun _ _ _ h => by cases h) rfl]
  simp only [aq, hz, ob_some]
def boxX (y : AV) : Option AV := if y.cells.all AV.one = true then some (.newbx y.cells) else none
theorem aop_box {d : Option Tmp} {t : TypeId} {x : Operand} : aop P C cp ci lvl e h d (.box t x) = qo lvl (d.getD 0) h ((opnd e.get x).bind boxX) := aop_any (fun _ _ _ h => by cases h) rfl
theorem boxX_at {y : AV} (h1 : y.cells.all AV.one = true) : boxX y = some (.newbx y.cells) := by simp [boxX, h1]
theorem cells_agg {xs : List AV} : (AV.agg xs).cells = xs := rfl
theorem cells_arr {m : Nat} {xs : List AV} : (AV.arr m xs).cells = [.arr m xs] := rfl
theorem cells_own {id : Id} {o m x : Nat} : (AV.own id o m x).cells = [.own id o m x] := rfl
theorem cells_ref {o : Nat} {xs : List AV} : (AV.ref xs o).cells = [.ref xs o] := rfl
theorem cells_ptr {id : Id} {o x : Nat} : (AV.ptr id o x).cells = [.ptr id o x] := rfl
theorem cells_fn {k a b} : (AV.fn k a b).cells = [.fn k a b] := rfl
def appI (lvl d : Nat) (esz by_ : Nat) (h : Heap) (m : Nat) (ys : List AV) (id : Id) (n ext : Nat) : Blk → Option (AV × Heap)
  | .sl true true sz ext' cells =>
    if ext' = n ∧ ext = n ∧ sz = esz ∧ ys.length = m * esz ∧ n + m ≤ 2 ^ 47 ∧ (n + m) * by_ ≤ 2 ^ 47 ∧ ys.all AV.one = true then
      some (.own id 0 (n + m) (n + m), h.set id (.sl true true sz (n + m) (cells ++ ys)))
    else none
  | _ => none
def appJ (lvl d : Nat) (esz by_ : Nat) (h0 h : Heap) (y : AV) (m : Nat) (ys : List AV) (id : Id) (n ext : Nat) : Blk → Option (AV × Heap)
  | .sl false true _ _ _ => appO h0 id n ext esz by_ y
  | b => appI lvl d esz by_ h m ys id n ext b
def appN (lvl d : Nat) (esz by_ : Nat) (h : Heap) (x y : AV) (q : List Id) (r : Nat × List AV) : Option (AV × Heap) :=
  match x with
  | .own id 0 n ext => ((freezeAll h q).get id).bind (appJ lvl d esz by_ h (freezeAll h q) y r.1 r.2 id n ext)
  | .v (.slice none 0 0) => if r.1 * by_ ≤ 2 ^ 47 ∧ r.2.length = r.1 * esz ∧ r.1 ≤ 2 ^ 47 then
            (importR lvl d 4 (.fresh esz r.1 r.2) (0, freezeAll h q)).bind fun (z, _, h') => some (z, h')
          else none
  | _ => none
def appX (P : Program) (lvl d : Nat) (t t' : TypeId) (h : Heap) (x y : AV) : Option (AV × Heap) := if t = t' then (tview P t).bind fun tv => match tv with
    | .slice el esz by_ => (tzero P el).bind fun z => if z.length = esz ∧ 0 < esz then (newsOf h.get y).bind (appN lvl d esz by_ h x y (inner h.get y)) else none
    | _ => none
    else (tview P t).bind fun tv => (tview P t').bind fun tv' => appZ P lvl h d tv tv' [x, y]
theorem aop_app {d : Option Tmp} {a b : Operand} {t t' : TypeId} : aop P C cp ci lvl e h d (.call ⟨.builtin .append, ⟨[a, b]⟩, #[t, t']⟩) =
    (opnd e.get a).bind fun x => (opnd e.get b).bind fun y => appX P lvl (d.getD 0) t t' h x y := by
  rw [aop_append]
  simp only [aS, optL]
  cases opnd e.get a with
  | none => rfl
  | some x =>
    cases opnd e.get b with
    | none => rfl
    | some y =>
      have ht0 : (#[t, t'])[0]? = some t := rfl
      have ht1 : (#[t, t'])[1]? = some t' := rfl
      simp only [ob_some, ht0, ht1, appX]
      by_cases htt : t = t'
      · rw [if_pos htt, if_pos htt]
        cases tview P t with
        | none => rfl
        | some tv =>
          simp only [ob_some]
          cases tv <;> try rfl
          rename_i el esz by_
          simp only
          cases tzero P el with
          | none => rfl
          | some z =>
            simp only [ob_some]
            by_cases hz : z.length = esz ∧ 0 < esz
            · rw [if_pos hz, if_pos hz]
              unfold appN
              split
              · rename_i id n ext y' heq
                injection heq with h1 h2
                injection h2 with h2 _
                subst h1 h2
                cases newsOf h.get y with
                | none => rfl
                | some r =>
                  simp only [ob_some]
                  cases Heap.get (freezeAll h (inner h.get y)) id with
                  | none => rfl
                  | some b => cases b with
                    | bx => rfl
                    | sl cl rw => cases cl <;> cases rw <;> rfl
              · rename_i y' heq
                injection heq with h1 h2
                injection h2 with h2 _
                subst h1 h2
                cases newsOf h.get y with
                | none => rfl
                | some r => rfl
              · rename_i h1 h2
                cases newsOf h.get y with
                | none => rfl
                | some r =>
                  simp only [ob_some]
                  split
                  · rename_i id n ext
                    exact absurd rfl (h1 id n ext y)
                  · exact absurd rfl (h2 y)
                  · rfl
            · rw [if_neg hz, if_neg hz]
      · rw [if_neg htt, if_neg htt]
theorem appX_at {t el : TypeId} {esz by_ d : Nat} {x y : AV} {z : List AV} (htv : tview P t = some (.slice el esz by_)) (hz : tzero P el = some z) (hl : z.length = esz) (h0 : 0 < esz) :
    appX P lvl d t t h x y = (newsOf h.get y).bind (appN lvl d esz by_ h x y (inner h.get y)) := by
  simp only [appX, htv, ob_some, hz, if_true]
  rw [if_pos ⟨hl, h0⟩]
theorem appN_own {d esz by_ : Nat} {y : AV} {id : Id} {n ext : Nat} {q : List Id} {r : Nat × List AV} : appN lvl d esz by_ h (.own id 0 n ext) y q r = ((freezeAll h q).get id).bind (appJ lvl d esz by_ h (freezeAll h q) y r.1 r.2 id n ext) := rfl
theorem appJ_cl {d esz by_ m : Nat} {h0 : Heap} {y : AV} {ys : List AV} {id : Id} {n ext : Nat} {rw : Bool} {sz e : Nat} {cells : List AV} : appJ lvl d esz by_ h0 h y m ys id n ext (.sl true rw sz e cells) = appI lvl d esz by_ h m ys id n ext (.sl true rw sz e cells) := by cases rw <;> rfl
theorem appN_nil {d esz by_ : Nat} {y : AV} {q : List Id} {r : Nat × List AV} (h1 : r.1 * by_ ≤ 140737488355328) (h2 : r.2.length = r.1 * esz) (h3 : r.1 ≤ 140737488355328) :
    appN lvl d esz by_ h (.v (.slice none 0 0)) y q r = freB true lvl d 0 (freezeAll h q) esz r.1 r.2 ((freezeAll h q).get (lvl, d, 0)) := by
  simp only [appN]
  rw [if_pos ⟨by omega, h2, by omega⟩, imp_fresh]
  cases freB true lvl d 0 (freezeAll h q) esz r.1 r.2 ((freezeAll h q).get (lvl, d, 0)) <;> rfl
theorem appI_at {d esz by_ m : Nat} {id : Id} {n : Nat} {cells ys : List AV} (h2 : ys.length = m * esz) (h3 : n + m ≤ 140737488355328) (h4 : (n + m) * by_ ≤ 140737488355328) (h5 : ys.all AV.one = true) :
    appI lvl d esz by_ h m ys id n n (.sl true true esz n cells) = some (.own id 0 (n + m) (n + m), h.set id (.sl true true esz (n + m) (cells ++ ys))) := by
  simp only [appI]
  rw [if_pos ⟨trivial, trivial, trivial, h2, by omega, by omega, h5⟩]
theorem one_ik {l : List Int} {k : IntKind} : (lm (ik k) l).all AV.one = true := by simp [lm, ik, AV.one]
theorem one_bk {l : List Bool} : (lm bk l).all AV.one = true := by simp [lm, bk, AV.one]
theorem one_avl {l : List (List α)} : (lm (avl f) l).all AV.one = true := by simp [lm, avl, AV.one]
theorem one_avf {l : List (List α)} : (lm (avf c) l).all AV.one = true := by simp [lm, avf, AV.one]
theorem one_fm (hc : ∀ x, (c x).all AV.one = true) : (fm c l).all AV.one = true := by
  induction l with
  | nil => rfl
  | cons x l ih => rw [fm_cons, List.all_append, hc, ih]; rfl
theorem news_arr {m : Nat} {xs : List AV} : newsOf g (.arr m xs) = some (m, xs) := by simp [newsOf, exportV]
theorem news_nil {cc : Nat} : newsOf g (.v (.slice none 0 cc)) = some (0, []) := rfl
def newB (g : Id → Option Blk) (off m ext : Nat) (b : Blk) : Option (Nat × List AV) := (exB g off m ext b).bind fun y => match y with
  | .arr n xs => some (n, xs)
  | _ => none
theorem news_own {id : Id} {off m ext : Nat} : newsOf g (.own id off m ext) = (g id).bind (newB g off m ext) := by
  simp only [newsOf, ex_own]
  cases g id <;> rfl
theorem newB_at {off m ext r sz cells} : newB g off m ext (.sl true r sz ext cells) = some (m, cut cells off m sz ext) := by simp [newB, exB]
def innerB (g : Id → Option Blk) : Option Blk → List Id
  | some (.sl false _ _ _ cells) => (cells.map (borrowed g 3)).flatten
  | _ => []
theorem inner_own {id : Id} {off m ext : Nat} : inner g (.own id off m ext) = innerB g (g id) := by
  simp only [inner, innerB]
  split <;> rename_i hh <;> split <;> rename_i hk
  · rw [hh] at hk; injection hk with hk; injection hk with _ _ _ _ hk; rw [hk]
  · exact absurd hh (hk _ _ _ _)
  · exact absurd hk (hh _ _ _ _)
  · rfl
theorem innerB_at {r sz ext cells} : innerB g (some (.sl true r sz ext cells)) = [] := rfl
theorem inner_arr {m : Nat} {xs : List AV} : inner g (.arr m xs) = [] := rfl
theorem inner_nil {cc : Nat} : inner g (.v (.slice none 0 cc)) = [] := rfl
theorem fz_nil : freezeAll h [] = h := rfl
def fzB (h : Heap) (i : Id) (is : List Id) : Option Blk → Heap
  | some b => freezeAll (h.set i b.freeze) is
  | none => freezeAll h is
theorem fz_cons {i : Id} {is : List Id} : freezeAll h (i :: is) = fzB h i is (h.get i) := by
  show (match h.get i with | some b => freezeAll (h.set i b.freeze) is | none => freezeAll h is) = _
  cases h.get i <;> rfl
theorem fzB_at {i : Id} {is : List Id} {b : Blk} : fzB h i is (some b) = freezeAll (h.set i b.freeze) is := rfl
theorem frz_sl {cl rw sz ext cells} : (Blk.sl cl rw sz ext cells).freeze = .sl cl false sz ext cells := rfl
theorem frz_bx {rw cells} : (Blk.bx rw cells).freeze = .bx false cells := rfl
end
end Go.Av
