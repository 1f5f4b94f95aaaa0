/- The interpreter's equations, second part: places, rows, calls, results. Conditions: those that each names. -/
import Derived.Test.YteiabmkcmmbbjaaGreatSh3
set_option linter.unusedVariables false
namespace Go.Av
section
variable {P : Program} {C : Cfg} {cp : CallP} {ci : CallI} {lvl n : Nat} {prot : List Id} {D : List (Nat × List Nat)} {e : Env} {h : Heap} {all os : List Oper}

theorem ia_arr {t el : TypeId} {sz by_ m : Nat} {xs : List AV} {i : Int} {g : Id → Option Blk} (htv : tview P t = some (.slice el sz by_)) (h0 : 0 ≤ i) (h1 : i < m) : aindexAddr P t g (.arr m xs) i = some (.ref xs (i.toNat * sz)) := by
  simp [aindexAddr, htv, h0, h1]
def iaB (id : Id) (off m ext sz : Nat) (i : Int) : Blk → Option AV
  | .sl _ _ sz' ext' _ => if sz' = sz ∧ ext' = ext ∧ 0 ≤ i ∧ i < m then some (.ptr id (off + i.toNat * sz) ext) else none
  | _ => none
theorem ia_own {t el : TypeId} {sz by_ off m ext : Nat} {id : Id} {i : Int} {g : Id → Option Blk} (htv : tview P t = some (.slice el sz by_)) :
    aindexAddr P t g (.own id off m ext) i = (g id).bind (iaB id off m ext sz i) := by
  simp only [aindexAddr, htv, ob_some]
  cases g id with
  | none => rfl
  | some b => cases b <;> rfl
theorem iaB_at {id : Id} {off m ext sz : Nat} {i : Int} {cl rw cells} (h0 : 0 ≤ i) (h1 : i < m) : iaB id off m ext sz i (.sl cl rw sz ext cells) = some (.ptr id (off + i.toNat * sz) ext) := by
  simp [iaB, h0, h1]
theorem part_int {t : TypeId} {k : IntKind} {xs : List AV} {off : Nat} (htv : tview P t = some (.int k)) : part P xs t off = xs[off]? := by simp [part, htv]
theorem part_bool {t : TypeId} {xs : List AV} {off : Nat} (htv : tview P t = some .bool) : part P xs t off = xs[off]? := by simp [part, htv]
theorem part_slice {t el : TypeId} {sz by_ : Nat} {xs : List AV} {off : Nat} (htv : tview P t = some (.slice el sz by_)) : part P xs t off = xs[off]? := by simp [part, htv]
theorem aload_ref {t : TypeId} {g : Id → Option Blk} {xs : List AV} {off : Nat} : aload P g t (.ref xs off) = part P xs t off := rfl
def ldB (P : Program) (t : TypeId) (off ext : Nat) (b : Blk) : Option AV := if b.ext = ext then part P b.cells t off else none
theorem aload_ptr {t : TypeId} {g : Id → Option Blk} {id : Id} {off ext : Nat} : aload P g t (.ptr id off ext) = (g id).bind (ldB P t off ext) := rfl
theorem ldB_at {t : TypeId} {off ext : Nat} {b : Blk} (he : b.ext = ext) : ldB P t off ext b = part P b.cells t off := by
  simp [ldB, he]
theorem blk_cells {cl rw sz ext xs} : (Blk.sl cl rw sz ext xs).cells = xs := rfl
theorem ints_at {l : List Int} {i : Nat} {x : Int} (h : l[i]? = some x) : (ints l)[i]? = some (.v (.int .i64 x)) := by rw [ints_get, h]; rfl
theorem aint {k x} : asI (.v (.int k x)) = some x := rfl
theorem alen_arr {m xs} : alen (.arr m xs) = some m := rfl
theorem alen_own {i o m x} : alen (.own i o m x) = some m := rfl
theorem alen_nil {c} : alen (.v (.slice none 0 c)) = some 0 := rfl
theorem len_slice {t el : TypeId} {sz by_ m : Nat} {x : AV} (htv : tview P t = some (.slice el sz by_)) (hx : alen x = some m) : abuiltin P .len #[t] [x] = some (.v (.int .i64 m)) := by
  simp [abuiltin, htv, hx]
theorem cells_v {x} : AV.cells (.v x) = [.v x] := rfl

theorem astore_int {id : Id} {sz ext off : Nat} {cells : List AV} {k : IntKind} {x : Int} (hg : h.get id = some (.sl true true sz ext cells)) (hoff : off < cells.length) :
    astore h (.ptr id off ext) (.v (.int k x)) = some (h.set id (.sl true true sz ext (cells.set off (.v (.int k x))))) := by
  have h1 : ([AV.v (.int k x)].mapM (exportV h.get 4)) = some [.v (.int k x)] := by simp [exportV]
  have h2 : (([AV.v (.int k x)].map (borrowed h.get 4)).flatten) = [] := by simp [borrowed]
  have hc : 1 ≤ cells.length - off := by omega
  simp only [astore, hg, ob_some, cells_v, h1, h2, freezeAll, Blk.ext, Blk.cells, List.length_cons, List.length_nil, List.all_cons, List.all_nil, AV.one, Bool.and_self, and_true, true_and, Nat.zero_add]
  rw [if_pos (by omega)]
  rfl
def stI (h : Heap) (id : Id) (off ext : Nat) (x : AV) : Blk → Option (AV × Heap)
  | .sl true true sz e cells => if e = ext ∧ off < cells.length then some (.v undef, h.set id (.sl true true sz e (cells.set off x))) else none
  | .sl false true sz e cells => if e = ext ∧ off < cells.length then some (.v undef, h.set id (.sl false true sz e (cells.set off x))) else none
  | .bx true cells => if ext = 0 ∧ off < cells.length then some (.v undef, h.set id (.bx true (cells.set off x))) else none
  | _ => none
def stX (P : Program) (t : TypeId) (h : Heap) (p y : AV) : Option (AV × Heap) := if y.cells.length = tsize P t ∧ 0 < tsize P t then (astore h p y).bind fun h' => some (.v undef, h') else none
theorem aop_st {t : TypeId} {a x : Operand} {d : Option Tmp} : aop P C cp ci lvl e h d (.store t a x) = (opnd e.get a).bind fun p => (opnd e.get x).bind fun y => stX P t h p y := rfl
theorem stX_int {t : TypeId} {id : Id} {off ext : Nat} {k : IntKind} {z : Int} (hsz : tsize P t = 1) : stX P t h (.ptr id off ext) (.v (.int k z)) = (h.get id).bind (stI h id off ext (.v (.int k z))) := by
  unfold stX
  rw [if_pos ⟨by rw [hsz]; rfl, by rw [hsz]; exact Nat.one_pos⟩]
  cases hg : h.get id with
  | none => simp [astore, hg]
  | some b =>
    rw [ob_some]
    have h1 : ([AV.v (.int k z)].mapM (exportV h.get 4)) = some [.v (.int k z)] := by simp [exportV]
    have h2 : (([AV.v (.int k z)].map (borrowed h.get 4)).flatten) = [] := by simp [borrowed]
    have e1 : ∀ o c : Nat, (o + 1 ≤ c) = (o < c) := fun _ _ => rfl
    cases b with
    | bx rw cells =>
      have e0 : ((0 : Nat) = ext) = (ext = 0) := propext ⟨Eq.symm, Eq.symm⟩
      simp only [astore, hg, ob_some, cells_v, Blk.ext, Blk.cells, List.length_cons, List.length_nil, List.all_cons, List.all_nil, AV.one, Bool.and_self, and_true, Nat.zero_add, e1, e0]
      cases rw with
      | false => by_cases hh : ext = 0 ∧ off < cells.length <;> simp [hh, stI]
      | true => by_cases hh : ext = 0 ∧ off < cells.length <;> simp [hh, stI, putCells]
    | sl cl rw sz e cells =>
      simp only [astore, hg, ob_some, cells_v, Blk.ext, Blk.cells, List.length_cons, List.length_nil, List.all_cons, List.all_nil, AV.one, Bool.and_self, and_true, Nat.zero_add, e1, h1, h2, freezeAll]
      cases cl <;> cases rw <;> by_cases hh : e = ext ∧ off < cells.length <;> simp [hh, stI, putCells]
theorem stI_ints {id : Id} {off ext : Nat} {x : Int} {l : List Int} (ho : off < l.length) :
    stI h id off ext (.v (.int .i64 x)) (.sl true true 1 ext (ints l)) = some (.v undef, h.set id (.sl true true 1 ext (ints (l.set off x)))) := by
  simp [stI, ints_length, ho, ints_set]
def mkX (P : Program) (t : TypeId) (x y : AV) : Option AV := (asI x).bind fun n => (asI y).bind fun c =>
      (tview P t).bind fun tv => match tv with
      | .slice el sz by_ => (tzero P el).bind fun z =>
        if 0 ≤ n ∧ n ≤ c ∧ c ≤ 2 ^ 47 ∧ c * by_ ≤ 2 ^ 47 ∧ z.length = sz then some (.fresh sz n.toNat (List.replicate n.toNat z).flatten) else none
      | _ => none
theorem aop_mk {t : TypeId} {d : Option Tmp} {x y : Operand} : aop P C cp ci lvl e h d (.makeSlice t x y) = qo lvl (d.getD 0) h ((opnd e.get x).bind fun a => (opnd e.get y).bind fun b => mkX P t a b) := aop_makeSlice
theorem mkX_at {t el : TypeId} {sz by_ : Nat} {a c : Int} {k k' : IntKind} {z : List AV} (htv : tview P t = some (.slice el sz by_)) (hz : tzero P el = some z) (hl : z.length = sz)
   (h0 : 0 ≤ a) (h1 : a ≤ c) (h2 : c ≤ 140737488355328) (h3 : c * by_ ≤ 140737488355328) :
   mkX P t (.v (.int k a)) (.v (.int k' c)) = some (.fresh sz a.toNat (List.replicate a.toNat z).flatten) := by
  simp only [mkX, ob_some, aint, htv, hz]
  rw [if_pos ⟨h0, h1, by omega, by omega, hl⟩]
theorem mkX_int {t el : TypeId} {by_ : Nat} {a c : Int} {k k' : IntKind} (htv : tview P t = some (.slice el 1 by_)) (hz : tzero P el = some [.v (.int .i64 0)])
   (h0 : 0 ≤ a) (h1 : a ≤ c) (h2 : c ≤ 140737488355328) (h3 : c * by_ ≤ 140737488355328) :
   mkX P t (.v (.int k a)) (.v (.int k' c)) = some (.fresh 1 a.toNat (ints (List.replicate a.toNat 0))) := by
  rw [mkX_at htv hz rfl h0 h1 h2 h3, ints_zero]

theorem ident_eq {a b c a' b' c' : Nat} : (((a, b, c) : Id) = (a', b', c')) = (a = a' ∧ b = b' ∧ c = c') := by simp
theorem id_beq {a b c a' b' c' : Nat} : (((a, b, c) : Id) == (a', b', c')) = (decide (a = a') && decide (b = b') && decide (c = c')) := by
  by_cases h1 : a = a' <;> by_cases h2 : b = b' <;> by_cases h3 : c = c' <;> simp [h1, h2, h3]
theorem new_at {k : Id} {y : Blk} (hg : h.get k = none) : h.new k y = some (h.set k y) := by simp [Heap.new, hg]

theorem names_v {id : Id} {x} : names id 4 (.v x) = false := rfl
theorem names_arr {id : Id} {m xs} : names id 4 (.arr m xs) = false := rfl
theorem names_ref {id : Id} {o xs} : names id 4 (.ref xs o) = false := rfl
theorem names_own {id j : Id} {o m x} : names id 4 (.own j o m x) = (j == id) := rfl
theorem names_ptr {id j : Id} {o x} : names id 4 (.ptr j o x) = (j == id) := rfl
theorem names_fn {id : Id} {f} : names id 4 (.fn f [] []) = false := rfl
theorem namedB_sl {id : Id} {r s x c} : namedB id (.sl true r s x c) = false := rfl

theorem ex_v {g : Id → Option Blk} {k x} : exportV g 4 (.v (.int k x)) = some (.v (.int k x)) := rfl
theorem ex_b {g : Id → Option Blk} {x} : exportV g 4 (.v (.bool x)) = some (.v (.bool x)) := rfl
theorem ex_nil {g : Id → Option Blk} {c} : exportV g 4 (.v (.slice none 0 c)) = some (.arr 0 []) := rfl
theorem ex_arr {g : Id → Option Blk} {m xs} : exportV g 4 (.arr m xs) = some (.arr m xs) := rfl
theorem ex_fn {g : Id → Option Blk} {f} : exportV g 4 (.fn f [] []) = some (.fn f [] []) := rfl
def exB (g : Id → Option Blk) (off m ext : Nat) : Blk → Option AV
  | .sl true _ sz e cells => if e = ext then some (.arr m (cut cells off m sz e)) else none
  | .sl false _ sz e cells => if e = ext then (cells.mapM (exportV g 3)).bind fun cs => some (.arr m (cut cs off m sz e)) else none
  | _ => none
theorem exB_at {g : Id → Option Blk} {off m ext r sz cells} : exB g off m ext (.sl true r sz ext cells) = some (.arr m (cut cells off m sz ext)) := by simp [exB]
theorem ex_own {g : Id → Option Blk} {id : Id} {off m ext : Nat} : exportV g 4 (.own id off m ext) = (g id).bind (exB g off m ext) := by
  simp only [exportV]
  cases g id with
  | none => rfl
  | some b => cases b with
    | bx => rfl
    | sl cl => cases cl <;> rfl
theorem bo_v {g : Id → Option Blk} {x} : borrowed g 4 (.v x) = [] := rfl
theorem bo_arr {g : Id → Option Blk} {m xs} : borrowed g 4 (.arr m xs) = [] := rfl
theorem bo_fn {g : Id → Option Blk} {f} : borrowed g 4 (.fn f [] []) = [] := rfl
theorem bo_own {g : Id → Option Blk} {id : Id} {off m ext r sz e cells} (hg : g id = some (.sl true r sz e cells)) : borrowed g 4 (.own id off m ext) = [id] := by
  simp [borrowed, hg]
theorem cut_all {cells : List AV} {m sz : Nat} : cut cells 0 m sz m = cells := by simp [cut]

/-- a call whose arguments name no row, or whose result holds nothing of them -/
theorem call_at {as bs : List AV} {g : Id → Option Blk} {k : FuncId} {r : AV} (hb : optL (exportV g 4) as = some bs) (hc : cp k bs = some r) (hf : (as.map (borrowed g 4)).flatten.isEmpty = true ∨ alias 4 r = false) :
    acallP cp g k as = some (r, []) := by
  simp only [acallP, hb, hc, ob_some]
  rcases hf with hf | hf
  · rw [if_pos hf]
  · rw [hf]; simp

/-- what stands behind a body that only reads -/
def finX (P : Program) (i : FInfo) (e : Env) (h : Heap) : Option AV :=
  (optL (resultV P e h) i.results).bind fun rs => (mapSt (exportR (freezeAll h ((rs.map (toFreeze h.get 4)).flatten)).get 4) rs []).bind fun r => some (one (typedL P i.types r.1))
theorem finfo_at {f : FuncId} {fn : Func} {c : Code} (hf : P.funcs[f]? = some fn) (hb : fn.body = some c) (hn : (fn.name == "runtime.NumGoroutine") = false) (hc : codeOk fn.ntmps D c = true) :
    finfo P f D = some ⟨c, fn.results.toList, fn.resultTypes.toList⟩ := by
  simp only [finfo, hf, hb]
  rw [if_pos ⟨hn, hc⟩]
/-- A FUNCTION THAT ONLY READS: its contract at these arguments -/
theorem pure_of (hm : P.follows .mixedOrders = true) (hcp : CpOK P cp) (hci : CiOK P ci) {f : FuncId} {i : FInfo} (hi : finfo P f D = some i) (n : Nat) {args : List AV} {x : Ex} {r : AV}
    (hx : exec P C cp ci 0 [] D n i.code (initE 0 args) [] = some (x, e, h)) (hr : finX P i e h = some r) (hne : ∀ j, x ≠ .exit j) : PureOK P f args r := by
  refine bodyP_ok hm (C := C) hcp hci (n := n) hi ?_
  simp only [bodyP, hx, ob_some]
  cases x with
  | normal => exact hr
  | exit j => exact absurd rfl (hne j)
  | ret => exact hr
def noI : CallI := fun _ _ _ _ => none
theorem noI_ok : CiOK P noI := fun _ _ _ _ _ _ h => by cases h
abbrev noC : Cfg := noC0
theorem fnX_no {dd : Nat} {as : List AV} {k : FuncId} {first cap : List AV} : fnX noC cp ci lvl dd h (some as) (.fn k first cap) = callX lvl dd h (acallP cp h.get k (first ++ as ++ cap)) := fnX_at rfl
theorem aop_call0 {d : Option Tmp} {k args ts} : aop P noC cp ci lvl e h d (.call ⟨.value (.func k), ⟨args⟩, ts⟩) =
    (optL (opnd e.get) args).bind fun as => callX lvl (d.getD 0) h (acallP cp h.get k as) := aop_call rfl
/-- contracts, one table behind another -/
def orC (f : FuncId) (c : List AV → Option AV) (cp : CallP) : CallP := fun g args => if g = f then c args else cp g args
theorem orC_ok {f : FuncId} {c : List AV → Option AV} (hcp : CpOK P cp) (hc : ∀ args r, c args = some r → PureOK P f args r) : CpOK P (orC f c cp) := fun g args r h => by
  unfold orC at h
  split at h
  · rename_i hg; subst hg; exact hc args r h
  · exact hcp g args r h
def noP : CallP := fun _ _ => none
theorem noP_ok : CpOK P noP := fun _ _ _ h => by cases h
theorem orC_hit {f : FuncId} {c : List AV → Option AV} {args} : orC f c cp f args = c args := by simp [orC]
theorem orC_miss {f g : FuncId} {c : List AV → Option AV} {args} (h : ¬ g = f) : orC f c cp g args = cp g args := by simp [orC, h]

/-! ### Contracts by the kinds of arguments -/
def onL (k : List Int → Option AV) : List AV → Option AV
  | [x] => (asInts x).bind k
  | _ => none
def onI (k : Int → Option AV) : List AV → Option AV
  | [x] => (asInt x).bind k
  | _ => none
def onLI (k : List Int → Int → Option AV) : List AV → Option AV
  | [x, y] => (asInts x).bind fun l => (asInt y).bind fun i => k l i
  | _ => none
def onLL (k : List Int → List Int → Option AV) : List AV → Option AV
  | [x, y] => (asInts x).bind fun l => (asInts y).bind fun m => k l m
  | _ => none
def onLLI (k : List Int → List Int → Int → Option AV) : List AV → Option AV
  | [x, y, z] => (asInts x).bind fun l => (asInts y).bind fun m => (asInt z).bind fun i => k l m i
  | _ => none
def onLF (k : List Int → FuncId → Option AV) : List AV → Option AV
  | [x, .fn f [] []] => (asInts x).bind fun l => k l f
  | _ => none
def onN (r : Option AV) : List AV → Option AV
  | [] => r
  | _ => none
def arrI (l : List Int) : AV := .arr l.length (ints l)
theorem asInts_arrI {l : List Int} : asInts (arrI l) = some l := asInts_arr
section
variable {f : FuncId}
theorem onL_ok {k : List Int → Option AV} (h : ∀ l r, k l = some r → PureOK P f [.arr l.length (ints l)] r) : ∀ args r, onL k args = some r → PureOK P f args r := by
  intro args r hh
  unfold onL at hh
  split at hh
  · simp only [Option.bind_eq_some_iff] at hh
    obtain ⟨l, hl, hh⟩ := hh
    rw [asInts_inv hl]; exact h l r hh
  · cases hh
theorem onI_ok {k : Int → Option AV} (h : ∀ l r, k l = some r → PureOK P f [.v (.int .i64 l)] r) : ∀ args r, onI k args = some r → PureOK P f args r := by
  intro args r hh
  unfold onI at hh
  split at hh
  · simp only [Option.bind_eq_some_iff] at hh
    obtain ⟨l, hl, hh⟩ := hh
    rw [asInt_inv hl]; exact h l r hh
  · cases hh
theorem onLI_ok {k : List Int → Int → Option AV} (h : ∀ l i r, k l i = some r → PureOK P f [.arr l.length (ints l), .v (.int .i64 i)] r) : ∀ args r, onLI k args = some r → PureOK P f args r := by
  intro args r hh
  unfold onLI at hh
  split at hh
  · simp only [Option.bind_eq_some_iff] at hh
    obtain ⟨l, hl, i, hi, hh⟩ := hh
    rw [asInts_inv hl, asInt_inv hi]; exact h l i r hh
  · cases hh
theorem onLL_ok {k : List Int → List Int → Option AV} (h : ∀ l m r, k l m = some r → PureOK P f [.arr l.length (ints l), .arr m.length (ints m)] r) : ∀ args r, onLL k args = some r → PureOK P f args r := by
  intro args r hh
  unfold onLL at hh
  split at hh
  · simp only [Option.bind_eq_some_iff] at hh
    obtain ⟨l, hl, i, hi, hh⟩ := hh
    rw [asInts_inv hl, asInts_inv hi]; exact h l i r hh
  · cases hh
theorem onLLI_ok {k : List Int → List Int → Int → Option AV} (h : ∀ l m i r, k l m i = some r → PureOK P f [.arr l.length (ints l), .arr m.length (ints m), .v (.int .i64 i)] r) : ∀ args r, onLLI k args = some r → PureOK P f args r := by
  intro args r hh
  unfold onLLI at hh
  split at hh
  · simp only [Option.bind_eq_some_iff] at hh
    obtain ⟨l, hl, m, hm, i, hi, hh⟩ := hh
    rw [asInts_inv hl, asInts_inv hm, asInt_inv hi]; exact h l m i r hh
  · cases hh
theorem onLF_ok {k : List Int → FuncId → Option AV} (h : ∀ l g r, k l g = some r → PureOK P f [.arr l.length (ints l), .fn g [] []] r) : ∀ args r, onLF k args = some r → PureOK P f args r := by
  intro args r hh
  unfold onLF at hh
  split at hh
  · simp only [Option.bind_eq_some_iff] at hh
    obtain ⟨l, hl, hh⟩ := hh
    rw [asInts_inv hl]; exact h l _ r hh
  · cases hh
theorem onN_ok {k : Option AV} (h : ∀ r, k = some r → PureOK P f [] r) : ∀ args r, onN k args = some r → PureOK P f args r := by
  intro args r hh
  unfold onN at hh
  split at hh
  · exact h r hh
  · cases hh
theorem onL_at {k : List Int → Option AV} {m : Nat} {l : List Int} (hm : m = l.length) : onL k [.arr m (ints l)] = k l := by subst hm; simp [onL, asInts_arr]
theorem onI_at {k : Int → Option AV} {i : Int} : onI k [.v (.int .i64 i)] = k i := rfl
theorem onLI_at {k : List Int → Int → Option AV} {m : Nat} {l : List Int} {i : Int} (hm : m = l.length) : onLI k [.arr m (ints l), .v (.int .i64 i)] = k l i := by subst hm; simp [onLI, asInts_arr, asInt]
theorem onLL_at {k : List Int → List Int → Option AV} {m m' : Nat} {l l' : List Int} (hm : m = l.length) (hm' : m' = l'.length) : onLL k [.arr m (ints l), .arr m' (ints l')] = k l l' := by subst hm hm'; simp [onLL, asInts_arr]
theorem onLLI_at {k : List Int → List Int → Int → Option AV} {m m' : Nat} {l l' : List Int} {i : Int} (hm : m = l.length) (hm' : m' = l'.length) : onLLI k [.arr m (ints l), .arr m' (ints l'), .v (.int .i64 i)] = k l l' i := by subst hm hm'; simp [onLLI, asInts_arr, asInt]
theorem onLF_at {k : List Int → FuncId → Option AV} {m : Nat} {l : List Int} {g : FuncId} (hm : m = l.length) : onLF k [.arr m (ints l), .fn g [] []] = k l g := by subst hm; simp [onLF, asInts_arr]
theorem onN_at {k : Option AV} : onN k [] = k := rfl
end
end
end Go.Av
