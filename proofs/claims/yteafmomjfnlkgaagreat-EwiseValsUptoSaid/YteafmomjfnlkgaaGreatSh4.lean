/- The interpreter's equations, second part: places, rows, calls, results. Conditions: those that each names. -/
import Derived.Test.YteafmomjfnlkgaaGreatSh3
set_option linter.unusedVariables false
namespace Go.Av
section
variable {P : Program} {C : Cfg} {cp : CallP} {ci : CallI} {lvl n : Nat} {prot : List Id} {D : List (Nat × List Nat)} {e : Env} {h : Heap} {all os : List Oper}
theorem ia_arr {t el : TypeId} {sz by_ m : Nat} {xs : List AV} {i : Int} {g : Id → Option Blk} (htv : tview P t = some (.slice el sz by_)) (h0 : 0 ≤ i) (h1 : i < m) : aindexAddr P t g (.arr m xs) i = some (.ref xs (i.toNat * sz)) := by
  simp [aindexAddr, htv, h0, h1]
def iaB (id : Id) (off m ext sz : Nat) (i : Int) : Blk → Option AV
  | .sl _ _ sz' ext' _ => if sz' = sz ∧ ext' = ext ∧ 0 ≤ i ∧ i < m then some (.ptr id (off + i.toNat * sz) ext) else none
  | _ => none
theorem ia_own {t el : TypeId} {sz by_ off m ext : Nat} {id : Id} {i : Int} {g : Id → Option Blk} (htv : tview P t = some (.slice el sz by_)) :
    aindexAddr P t g (.own id off m ext) i = (g id).bind (iaB id off m ext sz i) := by
  simp only [aindexAddr, htv, ob_some]
  cases g id with
  | none => rfl
  | some b => cases b <;> rfl
theorem iaB_at {id : Id} {off m ext sz : Nat} {i : Int} {cl rw cells} (h0 : 0 ≤ i) (h1 : i < m) : iaB id off m ext sz i (.sl cl rw sz ext cells) = some (.ptr id (off + i.toNat * sz) ext) := by
  simp [iaB, h0, h1]
theorem aload_ref {t : TypeId} {g : Id → Option Blk} {xs : List AV} {off : Nat} : aload P g t (.ref xs off) = part P xs t off := rfl
def ldB (P : Program) (t : TypeId) (off ext : Nat) (b : Blk) : Option AV := if b.ext = ext then part P b.cells t off else none
theorem aload_ptr {t : TypeId} {g : Id → Option Blk} {id : Id} {off ext : Nat} : aload P g t (.ptr id off ext) = (g id).bind (ldB P t off ext) := rfl
theorem aint {k x} : asI (.v (.int k x)) = some x := rfl
theorem alen_arr {m xs} : alen (.arr m xs) = some m := rfl
theorem alen_own {i o m x} : alen (.own i o m x) = some m := rfl
theorem alen_nil {c} : alen (.v (.slice none 0 c)) = some 0 := rfl
theorem cells_v {x} : AV.cells (.v x) = [.v x] := rfl
def stI (h : Heap) (id : Id) (off ext : Nat) (x : AV) : Blk → Option (AV × Heap)
  | .sl true true sz e cells => if e = ext ∧ off < cells.length then some (.v undef, h.set id (.sl true true sz e (cells.set off x))) else none
  | .sl false true sz e cells => if e = ext ∧ off < cells.length then some (.v undef, h.set id (.sl false true sz e (cells.set off x))) else none
  | .bx true cells => if ext = 0 ∧ off < cells.length then some (.v undef, h.set id (.bx true (cells.set off x))) else none
  | _ => none
def stX (P : Program) (t : TypeId) (h : Heap) (p y : AV) : Option (AV × Heap) := if y.cells.length = tsize P t ∧ 0 < tsize P t then (astore h p y).bind fun h' => some (.v undef, h') else none
theorem aop_st {t : TypeId} {a x : Operand} {d : Option Tmp} : aop P C cp ci lvl e h d (.store t a x) = (opnd e.get a).bind fun p => (opnd e.get x).bind fun y => stX P t h p y := rfl
theorem stX_int {t : TypeId} {id : Id} {off ext : Nat} {k : IntKind} {z : Int} (hsz : tsize P t = 1) : stX P t h (.ptr id off ext) (.v (.int k z)) = (h.get id).bind (stI h id off ext (.v (.int k z))) := by
  unfold stX
  rw [if_pos ⟨by rw [hsz]; rfl, by rw [hsz]; exact Nat.one_pos⟩]
  cases hg : h.get id with
  | none => simp [astore, hg]
  | some b =>
    rw [ob_some]
    have h1 : ([AV.v (.int k z)].mapM (exportV h.get 4)) = some [.v (.int k z)] := by simp [exportV]
    have h2 : (([AV.v (.int k z)].map (borrowed h.get 4)).flatten) = [] := by simp [borrowed]
    have e1 : ∀ o c : Nat, (o + 1 ≤ c) = (o < c) := fun _ _ => rfl
    cases b with
    | bx rw cells =>
      have e0 : ((0 : Nat) = ext) = (ext = 0) := propext ⟨Eq.symm, Eq.symm⟩
      simp only [astore, hg, ob_some, cells_v, Blk.ext, Blk.cells, List.length_cons, List.length_nil, List.all_cons, List.all_nil, AV.one, Bool.and_self, and_true, Nat.zero_add, e1, e0]
      cases rw with
      | false => by_cases hh : ext = 0 ∧ off < cells.length <;> simp [hh, stI]
      | true => by_cases hh : ext = 0 ∧ off < cells.length <;> simp [hh, stI, putCells]
    | sl cl rw sz e cells =>
      simp only [astore, hg, ob_some, cells_v, Blk.ext, Blk.cells, List.length_cons, List.length_nil, List.all_cons, List.all_nil, AV.one, Bool.and_self, and_true, Nat.zero_add, e1, h1, h2, freezeAll]
      cases cl <;> cases rw <;> by_cases hh : e = ext ∧ off < cells.length <;> simp [hh, stI, putCells]
def mkX (P : Program) (t : TypeId) (x y : AV) : Option AV := (asI x).bind fun n => (asI y).bind fun c =>
      (tview P t).bind fun tv => match tv with
      | .slice el sz by_ => (tzero P el).bind fun z =>
        if 0 ≤ n ∧ n ≤ c ∧ c ≤ 2 ^ 47 ∧ c * by_ ≤ 2 ^ 47 ∧ z.length = sz then some (.fresh sz n.toNat (List.replicate n.toNat z).flatten) else none
      | _ => none
theorem aop_mk {t : TypeId} {d : Option Tmp} {x y : Operand} : aop P C cp ci lvl e h d (.makeSlice t x y) = qo lvl (d.getD 0) h ((opnd e.get x).bind fun a => (opnd e.get y).bind fun b => mkX P t a b) := aop_makeSlice
theorem ident_eq {a b c a' b' c' : Nat} : (((a, b, c) : Id) = (a', b', c')) = (a = a' ∧ b = b' ∧ c = c') := by simp
theorem id_beq {a b c a' b' c' : Nat} : (((a, b, c) : Id) == (a', b', c')) = (decide (a = a') && decide (b = b') && decide (c = c')) := by
  by_cases h1 : a = a' <;> by_cases h2 : b = b' <;> by_cases h3 : c = c' <;> simp [h1, h2, h3]
def exB (g : Id → Option Blk) (off m ext : Nat) : Blk → Option AV
  | .sl true _ sz e cells => if e = ext then some (.arr m (cut cells off m sz e)) else none
  | .sl false _ sz e cells => if e = ext then (cells.mapM (exportV g 3)).bind fun cs => some (.arr m (cut cs off m sz e)) else none
  | _ => none
theorem ex_own {g : Id → Option Blk} {id : Id} {off m ext : Nat} : exportV g 4 (.own id off m ext) = (g id).bind (exB g off m ext) := by
  simp only [exportV]
  cases g id with
  | none => rfl
  | some b => cases b with
    | bx => rfl
    | sl cl => cases cl <;> rfl
def finX (P : Program) (i : FInfo) (e : Env) (h : Heap) : Option AV :=
  (optL (resultV P e h) i.results).bind fun rs => (mapSt (exportR (freezeAll h ((rs.map (toFreeze h.get 4)).flatten)).get 4) rs []).bind fun r => some (one (typedL P i.types r.1))
theorem finfo_at {f : FuncId} {fn : Func} {c : Code} (hf : P.funcs[f]? = some fn) (hb : fn.body = some c) (hn : (fn.name == "runtime.NumGoroutine") = false) (hc : codeOk ⟨fn.ntmps, none, []⟩ D c = true) :
    finfo P f D = some ⟨c, fn.results.toList, fn.resultTypes.toList⟩ := by
  simp only [finfo, hf, hb]
  rw [if_pos ⟨hn, hc⟩]
def noI : CallI := fun _ _ _ _ => none
theorem noI_ok : CiOK P noI := fun _ _ _ _ _ _ h => by cases h
abbrev noC : Cfg := noC0
theorem fnX_no {dd : Nat} {as : List AV} {k : FuncId} {first cap : List AV} : fnX noC cp ci lvl dd h (some as) (.fn k first cap) = callX lvl dd h (acallP cp h.get k (first ++ as ++ cap)) := fnX_at rfl
theorem aop_call0 {d : Option Tmp} {k args ts} : aop P noC cp ci lvl e h d (.call ⟨.value (.func k), ⟨args⟩, ts⟩) =
    (optL (opnd e.get) args).bind fun as => callX lvl (d.getD 0) h (acallP cp h.get k as) := aop_call rfl
def orC (f : FuncId) (c : List AV → Option AV) (cp : CallP) : CallP := fun g args => if g = f then c args else cp g args
theorem orC_ok {f : FuncId} {c : List AV → Option AV} (hcp : CpOK P cp) (hc : ∀ args r, c args = some r → PureOK P f args r) : CpOK P (orC f c cp) := fun g args r h => by
  unfold orC at h
  split at h
  · rename_i hg; subst hg; exact hc args r h
  · exact hcp g args r h
def noP : CallP := fun _ _ => none
theorem noP_ok : CpOK P noP := fun _ _ _ h => by cases h
section
variable {f : FuncId}
end
end
end Go.Av
