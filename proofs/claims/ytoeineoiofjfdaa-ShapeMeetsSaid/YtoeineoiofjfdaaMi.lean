/- Calls that are stepped through in their caller; parts of rows of one's own. Conditions: those that each names. -/
import Derived.Test.YtoeineoiofjfdaaMo
set_option linter.unusedVariables false
set_option linter.defProp false
namespace Go.Av
section
variable {P : Program} {C : Cfg} {cp : CallP} {ci : CallI} {lvl n : Nat} {e : Env} {h : Heap} {g : Id → Option Blk} {prot : List Id} {D : List (Nat × List Nat)} {K : KK} {α : Type} {f : α → AV}
def inlC (fs : List Nat) : Cfg := ⟨fun k => memN fs k, fun _ => []⟩
/-- a level above that of each row -/
def lvlOf : Heap → Nat
  | [] => 1
  | (i, _) :: h => if lvlOf h ≤ i.1 then i.1 + 1 else lvlOf h
theorem lvlOf_nil : lvlOf [] = 1 := rfl
theorem lvlOf_cons {a b c : Nat} {x : Blk} : lvlOf (((a, b, c), x) :: h) = if lvlOf h ≤ a then a + 1 else lvlOf h := rfl
theorem keys_nil : keys [] = [] := rfl
theorem keys_cons {i : Id} {x : Blk} : keys ((i, x) :: h) = i :: keys h := rfl
/-- one more function that is stepped through -/
def ciE (P : Program) (C : Cfg) (cp : CallP) (n : Nat) (f : FuncId) (D : List (Nat × List Nat)) (i : FInfo) (ci : CallI) : CallI := fun lvl k as h =>
  if k = f then bodyI P C cp noI n D i (lvlOf h) as h else ci lvl k as h
theorem ciE_ok (hm : P.follows .mixedOrders = true) (hcp : CpOK P cp) {f : FuncId} {i : FInfo} (hi : finfo P f D = some i) (hci : CiOK P ci) : CiOK P (ciE P C cp n f D i ci) := fun lvl k as h r h' hq => by
  unfold ciE at hq
  split at hq
  · rename_i hk; subst hk; exact bodyI_ok hm hcp noI_ok hi hq
  · exact hci _ _ _ _ _ _ hq
/-- behind a call that is stepped through -/
def kin (P : Program) (rs : List ResultVar) (h : Heap) (nx : AV × Heap → Option AV) : KK := fun y e h' => match y with
  | .exit _ => none
  | _ => (optL (resultV P e h') rs).bind fun rs => nx (one rs, sweep (keys h) [(0, one rs)] h')
theorem kin_ret {rs : List ResultVar} {h' : Heap} {nx : AV × Heap → Option AV} : kin P rs h nx .ret e h' = (optL (resultV P e h') rs).bind fun rs => nx (one rs, sweep (keys h) [(0, one rs)] h') := rfl
theorem kin_normal {rs : List ResultVar} {h' : Heap} {nx : AV × Heap → Option AV} : kin P rs h nx .normal e h' = (optL (resultV P e h') rs).bind fun rs => nx (one rs, sweep (keys h) [(0, one rs)] h') := rfl
theorem ciE_at {k : FuncId} {c : Code} {rs : List ResultVar} {ts : List TypeId} {as : List AV} {nx : AV × Heap → Option AV} :
    (ciE P C cp n k D ⟨c, rs, ts⟩ ci lvl k as h).bind nx = go P C cp noI (lvlOf h) (keys h) D n (kin P rs h nx) c (initE 0 as) h [] := by
  unfold ciE go bodyI
  rw [if_pos rfl]
  cases hx : exec P C cp noI (lvlOf h) (keys h) D n c (initE 0 as) h with
  | none => rfl
  | some r =>
    rcases r with ⟨y, e', h'⟩
    cases y with
    | exit j => rfl
    | normal =>
      simp only [ob_some, ret, kin]
      cases optL (resultV P e' h') rs <;> rfl
    | ret =>
      simp only [ob_some, ret, kin]
      cases optL (resultV P e' h') rs <;> rfl
theorem ciE_miss {k f : FuncId} {i : FInfo} {as : List AV} (hne : ¬ k = f) : ciE P C cp n f D i ci lvl k as h = ci lvl k as h := by
  unfold ciE
  rw [if_neg hne]
theorem aop_inl {d : Option Tmp} {k args ts} (hi : C.inl k = true) : aop P C cp ci lvl e h d (.call ⟨.value (.func k), ⟨args⟩, ts⟩) = (optL (opnd e.get) args).bind fun as => ci (lvl + 1) k as h := by
  simp only [aop, opnd, ob_some, fnOf, List.nil_append, List.append_nil, hi, if_true]
theorem aop_callC {d : Option Tmp} {k args ts} (hi : C.inl k = false) : aop P C cp ci lvl e h d (.call ⟨.value (.func k), ⟨args⟩, ts⟩) = (optL (opnd e.get) args).bind fun as => callX lvl (d.getD 0) h (acallP cp h.get k as) := aop_call hi
theorem aq_callC {e : Nat → Option AV} {k args ts} (hi : C.inl k = false) : aopQ P C cp e g (.call ⟨.value (.func k), ⟨args⟩, ts⟩) = (optL (opnd e) args).bind fun as => (acallP cp g k as).bind fun r => if r.2.isEmpty = true then some r.1 else none := by
  simp only [aopQ, opnd, ob_some, fnOf, List.nil_append, List.append_nil, hi, Bool.false_eq_true, if_false]
theorem inl_no {fs : List Nat} {k : Nat} : (inlC fs).inl k = memN fs k := rfl

/-! parts of rows -/
theorem cut_app {a b : List α} {ext : Nat} (he : a.length ≠ ext) : cut (lm f (a ++ b)) 0 a.length 1 ext = lm f a := by
  unfold cut
  rw [if_neg (fun hh => he hh.2)]
  simp [lm]
theorem appI_2ik {d by_ : Nat} {id : Id} {n : Nat} {l : List Int} {x y : Int} {k : IntKind} (h3 : n + 2 ≤ 140737488355328) (h4 : (n + 2) * by_ ≤ 140737488355328) :
    appI lvl d 1 by_ h 2 [.v (.int k x), .v (.int k y)] id n n (.sl true true 1 n (lm (ik k) l)) = some (.own id 0 (n + 2) (n + 2), h.set id (.sl true true 1 (n + 2) (lm (ik k) (l ++ [x, y])))) := by
  rw [appI_at (by rfl) h3 h4 (by simp [AV.one])]
  simp [lm, ik]
theorem lm_app2 {l : List Int} {x y : Int} {k : IntKind} : lm (ik k) l ++ [.v (.int k x), .v (.int k y)] = lm (ik k) (l ++ [x, y]) := by simp [lm, ik]
def RI := And.intro @lm_app2 <| And.intro @lvlOf_nil <| And.intro @lvlOf_cons <| And.intro @keys_nil <| And.intro @keys_cons <| And.intro @kin_ret <| And.intro @kin_normal <| And.intro @ciE_at <| And.intro @ciE_miss <| And.intro @aop_inl <| And.intro @aop_callC <| And.intro @aq_callC <|
  And.intro @cut_app <| And.intro @appI_2ik <| And.intro @rv_tmp <| And.intro @rv_cell <| And.intro @one_1 <| And.intro @one_0 <| And.intro @one_2 <| And.intro @Nat.sub_zero <| @Nat.zero_mul
end
end Go.Av
