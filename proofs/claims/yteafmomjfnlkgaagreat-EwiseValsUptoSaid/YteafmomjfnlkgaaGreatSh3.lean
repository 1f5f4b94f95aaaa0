/- The interpreter's equations, one for each kind of operation, and what ends a loop. Conditions: those that each names. -/
import Derived.Test.YteafmomjfnlkgaaGreatSz
set_option linter.unusedVariables false
namespace Go.Av
section
variable {P : Program} {C : Cfg} {cp : CallP} {ci : CallI} {lvl n : Nat} {prot : List Id} {D : List (Nat × List Nat)} {e : Env} {h : Heap} {all os : List Oper}
def noC0 : Cfg := ⟨fun _ => false, fun _ => []⟩
theorem ob_some {α β : Type} {a : α} {f : α → Option β} : (some a).bind f = f a := rfl
theorem ob_none {α β : Type} {f : α → Option β} : (none : Option α).bind f = none := rfl
def dropX (lvl : Nat) (prot : List Id) (ds : Nat × List Nat) (r : Env × Heap) : Option (Ex × Env × Heap) := (post lvl prot ds.2 (r.1.drop ds.2) r.2).bind fun r => some (.normal, r.1, r.2)
theorem exec_region {id : Nat} {ops : List Oper} : exec P C cp ci lvl prot D n (.region id ⟨ops⟩ false) e h =
  (aops P C cp ci lvl ops ops e h).bind (dropX lvl prot (D.getD (2 * id) (0, []))) := rfl
theorem exec_draw {id : Nat} {ops : List Oper} : exec P C cp ci lvl prot D n (.region id ⟨ops⟩ true) e h =
  (aopsW P C cp ci lvl ops (D.getD (2 * id) (0, [])).1 e h).bind (dropX lvl prot (D.getD (2 * id) (0, []))) := rfl
def thenX (k : Env → Heap → Option (Ex × Env × Heap)) : Ex × Env × Heap → Option (Ex × Env × Heap)
  | (.normal, e, h) => k e h
  | (.exit i, e, h) => some (.exit i, e, h)
  | (.ret, e, h) => some (.ret, e, h)
theorem exec_seq {a b : Code} : exec P C cp ci lvl prot D n (.seq a b) e h = (exec P C cp ci lvl prot D n a e h).bind (thenX (exec P C cp ci lvl prot D n b)) := by
  simp only [exec]
  congr 1
  funext r
  rcases r with ⟨_ | _ | _, _, _⟩ <;> rfl
def blockX (lvl : Nat) (prot : List Id) (D : List (Nat × List Nat)) (id : Nat) : Ex × Env × Heap → Option (Ex × Env × Heap)
  | (.normal, e, h) => dropX lvl prot (D.getD (2 * id + 1) (0, [])) (e, h)
  | (.exit i, e, h) => if i = id then dropX lvl prot (D.getD (2 * id + 1) (0, [])) (e, h) else some (.exit i, e, h)
  | (.ret, e, h) => some (.ret, e, h)
theorem exec_block {id : Nat} {c : Code} : exec P C cp ci lvl prot D n (.block id c) e h = (exec P C cp ci lvl prot D n c e h).bind (blockX lvl prot D id) := by
  simp only [exec]
  congr 1
  funext r
  rcases r with ⟨_ | _ | _, _, _⟩ <;> rfl
def condX (f g : Env → Heap → Option (Ex × Env × Heap)) (e : Env) (h : Heap) : AV → Option (Ex × Env × Heap)
  | .v (.bool true) => f e h
  | .v (.bool false) => g e h
  | _ => none
theorem exec_cond {c : Operand} {a b : Code} : exec P C cp ci lvl prot D n (.cond c a b) e h =
    (opnd e.get c).bind fun y => (condX (exec P C cp ci lvl prot D n a) (exec P C cp ci lvl prot D n b) (dropO D c e) h y).bind (sweepX prot) := by
  simp only [exec]
  congr 1
  funext y
  cases y <;> try rfl
  rename_i x
  cases x <;> try rfl
  rename_i b
  cases b <;> rfl
def nextX (f : Env → Heap → Option (Env × Heap)) (d : Option Tmp) (e : Env) (r : AV × Heap) : Option (Env × Heap) := f (putE e d r.1) r.2
theorem aops_free {d op ty pos after} : aops P C cp ci lvl all (⟨d, op, ty, pos, after, none⟩ :: os) e h =
  (aop P C cp ci lvl e h d op).bind (nextX (aops P C cp ci lvl all os) d e) := rfl
def wantX (f : Env → Heap → Option (Env × Heap)) (r : Option (AV × Heap)) (d : Option Tmp) (e : Env) (h : Heap) (wd : Bool) : Option (Env × Heap) :=
  if wd = true then r.bind (nextX f d e) else f (putE e d (.v undef)) h
theorem wantX_true {f r d} : wantX f r d e h true = r.bind (nextX f d e) := rfl
theorem aops_guard {d op ty pos after g} : aops P C cp ci lvl all (⟨d, op, ty, pos, after, some g⟩ :: os) e h =
  (wantedF all e.get ⟨d, op, ty, pos, after, some g⟩).bind (wantX (aops P C cp ci lvl all os) (aop P C cp ci lvl e h d op) d e h) := rfl
theorem wanted_guard {e : Nat → Option AV} {d op ty pos after j want} : wantedF all e ⟨d, op, ty, pos, after, some (j, want)⟩ = match (all[j]?).bind (·.dst) with
    | some d => (e d).bind fun x => match x with
      | .v (.bool b) => some (b == want)
      | .v _ => some false
      | _ => none
    | none => some false := rfl
theorem putE_some {d x} : putE e (some d) x = e.set d x := rfl
theorem putE_none {x} : putE e none x = e := rfl
def qo (lvl d : Nat) (h : Heap) : Option AV → Option (AV × Heap)
  | some t => (importR lvl d 4 t (0, h)).bind fun r => some (r.1, r.2.2)
  | none => none
theorem qo_v {d x} : qo lvl d h (some (.v x)) = some (.v x, h) := rfl
theorem qo_arr {d m xs} : qo lvl d h (some (.arr m xs)) = some (.arr m xs, h) := rfl
theorem qo_own {d i o m x} : qo lvl d h (some (.own i o m x)) = some (.own i o m x, h) := rfl
theorem qo_ptr {d i o x} : qo lvl d h (some (.ptr i o x)) = some (.ptr i o x, h) := rfl
theorem qo_ref {d o x} : qo lvl d h (some (.ref x o)) = some (.ref x o, h) := rfl
theorem qo_fn {d f a b} : qo lvl d h (some (.fn f a b)) = some (.fn f a b, h) := rfl
def freB (cl : Bool) (lvl d k : Nat) (h : Heap) (sz m : Nat) (xs : List AV) : Option Blk → Option (AV × Heap)
  | none => some (.own (lvl, d, k) 0 m m, Heap.set h (lvl, d, k) (.sl cl true sz m xs))
  | some _ => (h.new (lvl, d, freeK h lvl d k) (.sl cl true sz m xs)).bind fun h' => some (.own (lvl, d, freeK h lvl d k) 0 m m, h')
theorem freB_none {cl : Bool} {d k sz m : Nat} {xs : List AV} : freB cl lvl d k h sz m xs none = some (.own (lvl, d, k) 0 m m, Heap.set h (lvl, d, k) (.sl cl true sz m xs)) := rfl
theorem freB_eq {cl : Bool} {d k sz m : Nat} {xs : List AV} : ((h.new (lvl, d, freeK h lvl d k) (.sl cl true sz m xs)).bind fun h' => some (AV.own (lvl, d, freeK h lvl d k) 0 m m, h')) = freB cl lvl d k h sz m xs (h.get (lvl, d, k)) := by
  cases hg : h.get (lvl, d, k) with
  | some b => rfl
  | none =>
    have e1 : freeK h lvl d k = k := by unfold freeK freeN; rw [hg]; rfl
    rw [e1]
    unfold Heap.new
    rw [hg]
    rfl
theorem qo_fresh {d sz m xs} : qo lvl d h (some (.fresh sz m xs)) = freB true lvl d 0 h sz m xs (h.get (lvl, d, 0)) := by
  rw [← freB_eq]
  simp only [qo, importR]
  cases h.new (lvl, d, freeK h lvl d 0) (.sl true true sz m xs) <;> rfl
section ops
variable {d : Option Tmp} {x y z c a b f : Operand}
theorem aop_move : aop P C cp ci lvl e h d (.move x) = qo lvl (d.getD 0) h (opnd e.get x) := by
  simp only [aop, aq]; cases opnd e.get x <;> rfl
theorem aop_assign : aop P C cp ci lvl e h d (.assign x) = qo lvl (d.getD 0) h (opnd e.get x) := by
  simp only [aop, aq]; cases opnd e.get x <;> rfl
theorem aop_any {o : Op} (hc : ∀ f args ts, o ≠ .call ⟨.value f, args, ts⟩) (hs : aS P lvl e.get h (d.getD 0) o = none) : aop P C cp ci lvl e h d o = qo lvl (d.getD 0) h (aq P e.get h.get o) := by
  unfold aop
  split
  · exact absurd rfl (hc _ _ _)
  · rename_i o' hh
    simp only [hs]
    cases aq P e.get h.get o' <;> rfl
theorem aop_bin {op t t'} : aop P C cp ci lvl e h d (.binOp op t x y t') = qo lvl (d.getD 0) h ((opnd e.get x).bind fun a => (opnd e.get y).bind fun b => abin P op t a b) := aop_any (fun _ _ _ h => by cases h) rfl
theorem aop_un {op t} : aop P C cp ci lvl e h d (.unOp op t x) = qo lvl (d.getD 0) h ((opnd e.get x).bind fun a => aun op a) := aop_any (fun _ _ _ h => by cases h) rfl
theorem aop_pick : aop P C cp ci lvl e h d (.pick c a b) = qo lvl (d.getD 0) h ((opnd e.get c).bind fun c => match c with
    | .v (.bool t) => if t = true then opnd e.get a else opnd e.get b
    | _ => none) := aop_any (fun _ _ _ h => by cases h) rfl
theorem aop_load {t} : aop P C cp ci lvl e h d (.load t a) = qo lvl (d.getD 0) h ((opnd e.get a).bind fun p => aload P h.get t p) := aop_any (fun _ _ _ h => by cases h) rfl
theorem aop_indexAddr {t} : aop P C cp ci lvl e h d (.indexAddr t x y) = qo lvl (d.getD 0) h ((opnd e.get x).bind fun a => (opnd e.get y).bind fun b => (asI b).bind fun n => aindexAddr P t h.get a n) := aop_any (fun _ _ _ h => by cases h) rfl
theorem aop_fieldAddr {s i} : aop P C cp ci lvl e h d (.fieldAddr s x i) = qo lvl (d.getD 0) h ((opnd e.get x).bind fun a => afield P s h.get a i) := aop_any (fun _ _ _ h => by cases h) rfl
theorem aop_field {t i} : aop P C cp ci lvl e h d (.field t x i) = qo lvl (d.getD 0) h ((opnd e.get x).bind fun a => (fieldOf P t i).bind fun r => match a with
    | .agg xs => part P xs r.2 r.1
    | _ => none) := aop_any (fun _ _ _ h => by cases h) rfl
theorem aop_extract {i} : aop P C cp ci lvl e h d (.extract x i) = qo lvl (d.getD 0) h ((opnd e.get x).bind fun a => match a with
    | .tuple xs => xs[i]?
    | _ => none) := aop_any (fun _ _ _ h => by cases h) rfl
theorem aop_nilCheck : aop P C cp ci lvl e h d (.nilCheck x) = qo lvl (d.getD 0) h ((opnd e.get x).bind fun y => match y with
    | .ptr id _ ext => if live h.get id ext = true then some y else none
    | .ref _ _ => some y
    | .fn _ _ _ => some y
    | _ => none) := aop_any (fun _ _ _ h => by cases h) rfl
theorem aop_makeSlice {t} : aop P C cp ci lvl e h d (.makeSlice t x y) = qo lvl (d.getD 0) h ((opnd e.get x).bind fun a => (opnd e.get y).bind fun b => (asI a).bind fun n => (asI b).bind fun c =>
      (tview P t).bind fun tv => match tv with
      | .slice el sz by_ => (tzero P el).bind fun z =>
        if 0 ≤ n ∧ n ≤ c ∧ c ≤ 2 ^ 47 ∧ c * by_ ≤ 2 ^ 47 ∧ z.length = sz then some (.fresh sz n.toNat (List.replicate n.toNat z).flatten) else none
      | _ => none) := aop_any (fun _ _ _ h => by cases h) rfl
theorem aop_slice {t lo hi} : aop P C cp ci lvl e h d (.slice t x lo hi none) = qo lvl (d.getD 0) h ((opnd e.get x).bind fun a => (optS (opnd e.get) lo).bind fun l => (optS (opnd e.get) hi).bind fun r => aslice P t h.get a l r) := aop_any (fun _ _ _ h => by cases h) rfl
theorem aop_buildSlice {t m ps} : aop P C cp ci lvl e h d (.buildSlice t m ⟨ps⟩) = qo lvl (d.getD 0) h ((optL (fun p : Nat × Operand => (opnd e.get p.2).bind fun y => some (p.1, y)) ps).bind fun ps => abuildSlice P t m ps) := aop_any (fun _ _ _ h => by cases h) rfl
theorem aop_build {t ps} : aop P C cp ci lvl e h d (.build t ⟨ps⟩) = qo lvl (d.getD 0) h ((optL (fun p : Nat × Operand => (opnd e.get p.2).bind fun y => some (p.1, y)) ps).bind fun ps => abuild P t ps) := aop_any (fun _ _ _ h => by cases h) rfl
theorem aop_len {ts} : aop P C cp ci lvl e h d (.call ⟨.builtin .len, ⟨[x]⟩, ts⟩) = qo lvl (d.getD 0) h ((opnd e.get x).bind fun a => abuiltin P .len ts [a]) := by
  rw [aop_any (fun _ _ _ h => by cases h) rfl]
  simp only [aq, optL]
  cases opnd e.get x <;> rfl
theorem aop_max {ts} : aop P C cp ci lvl e h d (.call ⟨.builtin .max, ⟨[x, y]⟩, ts⟩) = qo lvl (d.getD 0) h ((opnd e.get x).bind fun a => (opnd e.get y).bind fun b => abuiltin P .max ts [a, b]) := by
  rw [aop_any (fun _ _ _ h => by cases h) rfl]
  simp only [aq, optL]
  cases opnd e.get x <;> cases opnd e.get y <;> rfl
theorem aop_append {args ts} : aop P C cp ci lvl e h d (.call ⟨.builtin .append, ⟨args⟩, ts⟩) = aS P lvl e.get h (d.getD 0) (.call ⟨.builtin .append, ⟨args⟩, ts⟩) := by
  have : aq P e.get h.get (.call ⟨.builtin .append, ⟨args⟩, ts⟩) = none := by
    simp only [aq]
    cases optL (opnd e.get) args with
    | none => rfl
    | some as => simp only [ob_some, abuiltin]
  unfold aop
  simp only [this]
def callX (lvl d : Nat) (h : Heap) : Option (AV × List Id) → Option (AV × Heap)
  | some (r, fl) => qo lvl d (freezeAll h fl) (some r)
  | none => none
theorem callX_nil {d : Nat} {r : AV} : callX lvl d h (some (r, [])) = qo lvl d h (some r) := rfl
theorem callX_eq {d : Nat} {r : Option (AV × List Id)} : (r.bind fun r => (importR lvl d 4 r.1 (0, freezeAll h r.2)).bind fun r => some (r.1, r.2.2)) = callX lvl d h r := by
  rcases r with _ | ⟨r, fl⟩ <;> rfl
theorem aop_call {k args ts} (hi : C.inl k = false) : aop P C cp ci lvl e h d (.call ⟨.value (.func k), ⟨args⟩, ts⟩) =
    (optL (opnd e.get) args).bind fun as => callX lvl (d.getD 0) h (acallP cp h.get k as) := by
  simp only [aop, opnd, ob_some, fnOf, List.nil_append, List.append_nil, hi, Bool.false_eq_true, if_false]
  congr 1
  funext as
  rw [← callX_eq]
def fnX (C : Cfg) (cp : CallP) (ci : CallI) (lvl d : Nat) (h : Heap) (as : Option (List AV)) : AV → Option (AV × Heap)
  | .fn k first cap => as.bind fun as => if C.inl k = true then ci (lvl + 1) k (first ++ as ++ cap) h else callX lvl d h (acallP cp h.get k (first ++ as ++ cap))
  | _ => none
theorem fnX_at {dd : Nat} {as : List AV} {k : FuncId} {first cap : List AV} (hi : C.inl k = false) : fnX C cp ci lvl dd h (some as) (.fn k first cap) = callX lvl dd h (acallP cp h.get k (first ++ as ++ cap)) := by simp [fnX, hi]
theorem aop_callv {t args ts} : aop P C cp ci lvl e h d (.call ⟨.value (.tmp t), ⟨args⟩, ts⟩) =
    (e.get t).bind (fnX C cp ci lvl (d.getD 0) h (optL (opnd e.get) args)) := by
  simp only [aop, opnd]
  congr 1
  funext x
  cases x <;> try rfl
  simp only [fnOf, ob_some, fnX]
  congr 1
  funext as
  rw [← callX_eq]
theorem acall_eq {k : FuncId} {as : List AV} {g : Id → Option Blk} : acallP cp g k as = (optL (exportV g 4) as).bind fun bs => (cp k bs).bind fun r =>
    some (r, if (as.map (borrowed g 4)).flatten.isEmpty = true then [] else if alias 4 r = true then (as.map (borrowed g 4)).flatten else []) := rfl
def exT (i : Nat) : AV → Option AV
  | .tuple xs => xs[i]?
  | _ => none
theorem aop_ext {i x} : aop P C cp ci lvl e h d (.extract x i) = qo lvl (d.getD 0) h ((opnd e.get x).bind (exT i)) := by
  rw [aop_extract]
  rfl
theorem exT_at {i xs} : exT i (.tuple xs) = xs[i]? := rfl
end ops
theorem aopsQ_zero : aopsQ P C cp ci lvl all 0 os e h = aops P C cp ci lvl all os e h := by cases os <;> rfl
theorem aopsQ_free {k d op ty pos after} : aopsQ P C cp ci lvl all (k + 1) (⟨d, op, ty, pos, after, none⟩ :: os) e h =
  (qo lvl (d.getD 0) h (aopQ P C cp e.get h.get op)).bind (nextX (aopsQ P C cp ci lvl all k os) d e) := by
  show (aopQ P C cp e.get h.get op).bind _ = _
  cases aopQ P C cp e.get h.get op with
  | none => rfl
  | some t =>
    simp only [qo, ob_some]
    cases importR lvl (d.getD 0) 4 t (0, h) <;> rfl
theorem aopsQ_guard {k d op ty pos after g} : aopsQ P C cp ci lvl all (k + 1) (⟨d, op, ty, pos, after, some g⟩ :: os) e h =
  (wantedF all e.get ⟨d, op, ty, pos, after, some g⟩).bind (wantX (aopsQ P C cp ci lvl all k os) (qo lvl (d.getD 0) h (aopQ P C cp e.get h.get op)) d e h) := by
  show Option.bind (wantedF all e.get ⟨d, op, ty, pos, after, some g⟩) _ = _
  congr 1
  funext wd
  cases wd with
  | false => rfl
  | true =>
    show (aopQ P C cp e.get h.get op).bind _ = _
    simp only [wantX, if_true]
    cases aopQ P C cp e.get h.get op with
    | none => rfl
    | some t =>
      simp only [qo, ob_some]
      cases importR lvl (d.getD 0) 4 t (0, h) <;> rfl
section aq
variable {e : Nat → Option AV} {g : Id → Option Blk} {x y a : Operand}
theorem aq_move : aopQ P C cp e g (.move x) = opnd e x := rfl
theorem aq_assign : aopQ P C cp e g (.assign x) = opnd e x := rfl
theorem aq_bin {op t t'} : aopQ P C cp e g (.binOp op t x y t') = (opnd e x).bind fun a => (opnd e y).bind fun b => abin P op t a b := rfl
theorem aq_un {op t} : aopQ P C cp e g (.unOp op t x) = (opnd e x).bind fun a => aun op a := rfl
theorem aq_load {t} : aopQ P C cp e g (.load t a) = (opnd e a).bind fun p => aload P g t p := rfl
theorem aq_indexAddr {t} : aopQ P C cp e g (.indexAddr t x y) = (opnd e x).bind fun a => (opnd e y).bind fun b => (asI b).bind fun n => aindexAddr P t g a n := rfl
theorem aq_fieldAddr {s i} : aopQ P C cp e g (.fieldAddr s x i) = (opnd e x).bind fun a => afield P s g a i := rfl
theorem aq_len {ts} : aopQ P C cp e g (.call ⟨.builtin .len, ⟨[x]⟩, ts⟩) = (opnd e x).bind fun a => abuiltin P .len ts [a] := by
  simp only [aopQ, aq, optL]
  cases opnd e x <;> rfl
theorem aq_pick {c b} : aopQ P C cp e g (.pick c a b) = (opnd e c).bind fun c => match c with
    | .v (.bool t) => if t = true then opnd e a else opnd e b
    | _ => none := rfl
theorem aq_call0 {k args ts} : aopQ P noC0 cp e g (.call ⟨.value (.func k), ⟨args⟩, ts⟩) = (optL (opnd e) args).bind fun as => (acallP cp g k as).bind fun r => if r.2.isEmpty = true then some r.1 else if aliasE 4 r.1 = false then some r.1 else none := by
  simp only [aopQ, opnd, ob_some, fnOf, List.nil_append, List.append_nil, noC0, Bool.false_eq_true, if_false]
end aq
theorem opnd_tmp {e : Nat → Option AV} {t} : opnd e (.tmp t) = e t := rfl
theorem opnd_func {e : Nat → Option AV} {f} : opnd e (.func f) = some (.fn f [] []) := rfl
theorem opnd_int {e : Nat → Option AV} {k x} : opnd e (.const (.int k x)) = some (.v (.int k x)) := rfl
theorem opnd_bool {e : Nat → Option AV} {x} : opnd e (.const (.bool x)) = some (.v (.bool x)) := rfl
theorem opnd_nil {e : Nat → Option AV} {a m c} : opnd e (.const (.slice a m c)) = some (.v (.slice a m c)) := rfl
theorem optL_nil {α β : Type} {f : α → Option β} : optL f [] = some [] := rfl
theorem optL_cons {α β : Type} {f : α → Option β} {x : α} {xs : List α} : optL f (x :: xs) = (f x).bind fun y => (optL f xs).bind fun ys => some (y :: ys) := rfl
theorem abin_int {op t k k' x y} : abin P op t (.v (.int k x)) (.v (.int k' y)) = abinI op k k' x y := rfl
section ints
variable {x y : Int} {k : IntKind}
theorem bi_lss : abinI .lss k k x y = some (.v (.bool (decide (x < y)))) := by simp [abinI, BinOp.isSh, BinOp.isCmp, intCmpA]
theorem bi_leq : abinI .leq k k x y = some (.v (.bool (decide (x ≤ y)))) := by simp [abinI, BinOp.isSh, BinOp.isCmp, intCmpA]
theorem bi_gtr : abinI .gtr k k x y = some (.v (.bool (decide (y < x)))) := by simp [abinI, BinOp.isSh, BinOp.isCmp, intCmpA]
theorem bi_geq : abinI .geq k k x y = some (.v (.bool (decide (y ≤ x)))) := by simp [abinI, BinOp.isSh, BinOp.isCmp, intCmpA]
theorem bi_eql : abinI .eql k k x y = some (.v (.bool (decide (x = y)))) := by simp [abinI, BinOp.isSh, BinOp.isCmp, intCmpA]; exact (Bool.beq_eq_decide_eq x y)
theorem bi_neq : abinI .neq k k x y = some (.v (.bool (!decide (x = y)))) := by simp [abinI, BinOp.isSh, BinOp.isCmp, intCmpA, bne, Bool.beq_eq_decide_eq]
theorem wrap64 (h1 : -9223372036854775808 ≤ x) (h2 : x < 9223372036854775808) : IntKind.i64.wrap x = x := by
  simp [IntKind.wrap, IntKind.signed, IntKind.bits]
  omega
end ints
theorem bq_tt : (true == true) = true := rfl
theorem bq_tf : (true == false) = false := rfl
theorem bq_ft : (false == true) = false := rfl
theorem bq_ff : (false == false) = true := rfl
theorem eg_nil {k} : Env.get [] k = none := rfl
theorem eg_cons {j k x} {e : Env} : Env.get ((j, x) :: e) k = if j = k then some x else Env.get e k := rfl
theorem hg_nil {k} : Heap.get [] k = none := rfl
theorem hg_cons {j k x} {h : Heap} : Heap.get ((j, x) :: h) k = if j = k then some x else Heap.get h k := rfl
def iv (x : Int) : AV := .v (.int .i64 x)
def ints (l : List Int) : List AV := l.map iv
def asInt : AV → Option Int
  | .v (.int .i64 x) => some x
  | _ => none
end
end Go.Av
