/- Calls that are stepped through in their caller; parts of rows of one's own. Conditions: those that each names. -/
import Derived.Test.YteafmomjfnlkgaaGreatMo
set_option linter.unusedVariables false
set_option linter.defProp false
namespace Go.Av
section
variable {P : Program} {C : Cfg} {cp : CallP} {ci : CallI} {lvl n : Nat} {e : Env} {h : Heap} {g : Id → Option Blk} {prot : List Id} {D : List (Nat × List Nat)} {K : KK} {α : Type} {f : α → AV}
def inlC (fs : List Nat) : Cfg := ⟨fun k => memN fs k, fun _ => []⟩
def lvlOf : Heap → Nat
  | [] => 1
  | (i, _) :: h => if lvlOf h ≤ i.1 then i.1 + 1 else lvlOf h
theorem lvlOf_nil : lvlOf [] = 1 := rfl
def lvlX (a m : Nat) : Nat := if m ≤ a then a + 1 else m
theorem lvlX_le {a m : Nat} (hm : m ≤ a) : lvlX a m = a + 1 := if_pos hm
theorem lvlX_gt {a m : Nat} (hm : a < m) : lvlX a m = m := if_neg (Nat.not_le_of_lt hm)
theorem lvlOf_cons {a b c : Nat} {x : Blk} : lvlOf (((a, b, c), x) :: h) = lvlX a (lvlOf h) := rfl
theorem keys_nil : keys [] = [] := rfl
theorem keys_cons {i : Id} {x : Blk} : keys ((i, x) :: h) = i :: keys h := rfl
def ciE (P : Program) (C : Cfg) (cp : CallP) (cin : CallI) (n : Nat) (f : FuncId) (D : List (Nat × List Nat)) (i : FInfo) (ci : CallI) : CallI := fun lvl k as h =>
  if k = f then bodyI P C cp cin n D i (lvlOf h) as h else ci lvl k as h
theorem ciE_ok (hm : P.follows .mixedOrders = true) (hcp : CpOK P cp) {cin : CallI} (hcin : CiOK P cin) {f : FuncId} {i : FInfo} (hi : finfo P f D = some i) (hci : CiOK P ci) : CiOK P (ciE P C cp cin n f D i ci) := fun lvl k as h r h' hq => by
  unfold ciE at hq
  split at hq
  · rename_i hk; subst hk; exact .inl (bodyI_ok hm hcp hcin hi hq)
  · exact hci _ _ _ _ _ _ hq
def kin (P : Program) (rs : List ResultVar) (h : Heap) (nx : AV × Heap → Option AV) : KK := fun y e h' => match y with
  | .exit _ => none
  | _ => (optL (resultV P e h') rs).bind fun rs => nx (one rs, sweep (keys h) [(0, one rs)] h')
def kinB (h : Heap) (nx : AV × Heap → Option AV) (h' : Heap) (rs : List AV) : Option AV := nx (one rs, sweep (keys h) [(0, one rs)] h')
theorem kinB_at {h' : Heap} {nx : AV × Heap → Option AV} {rs : List AV} : kinB h nx h' rs = nx (one rs, sweep (keys h) [(0, one rs)] h') := rfl
theorem kin_ret {rs : List ResultVar} {h' : Heap} {nx : AV × Heap → Option AV} : kin P rs h nx .ret e h' = (optL (resultV P e h') rs).bind (kinB h nx h') := rfl
theorem kin_normal {rs : List ResultVar} {h' : Heap} {nx : AV × Heap → Option AV} : kin P rs h nx .normal e h' = (optL (resultV P e h') rs).bind (kinB h nx h') := rfl
theorem ciE_at {cin : CallI} {k : FuncId} {c : Code} {rs : List ResultVar} {ts : List TypeId} {as : List AV} {nx : AV × Heap → Option AV} :
    (ciE P C cp cin n k D ⟨c, rs, ts⟩ ci lvl k as h).bind nx = go P C cp cin (lvlOf h) (keys h) D n (kin P rs h nx) c (initE 0 as) h [] := by
  unfold ciE go bodyI
  rw [if_pos rfl]
  cases hx : exec P C cp cin (lvlOf h) (keys h) D n c (initE 0 as) h with
  | none => rfl
  | some r =>
    rcases r with ⟨y, e', h'⟩
    cases y with
    | exit j => rfl
    | normal =>
      simp only [ob_some, ret, kin]
      cases optL (resultV P e' h') rs <;> rfl
    | ret =>
      simp only [ob_some, ret, kin]
      cases optL (resultV P e' h') rs <;> rfl
theorem ciE_miss {cin : CallI} {k f : FuncId} {i : FInfo} {as : List AV} (hne : ¬ k = f) : ciE P C cp cin n f D i ci lvl k as h = ci lvl k as h := by
  unfold ciE
  rw [if_neg hne]
theorem aop_inl {d : Option Tmp} {k args ts} (hi : C.inl k = true) : aop P C cp ci lvl e h d (.call ⟨.value (.func k), ⟨args⟩, ts⟩) = (optL (opnd e.get) args).bind fun as => ci (lvl + 1) k as h := by
  simp only [aop, opnd, ob_some, fnOf, List.nil_append, List.append_nil, hi, if_true]
theorem aop_callC {d : Option Tmp} {k args ts} (hi : C.inl k = false) : aop P C cp ci lvl e h d (.call ⟨.value (.func k), ⟨args⟩, ts⟩) = (optL (opnd e.get) args).bind fun as => callX lvl (d.getD 0) h (acallP cp h.get k as) := aop_call hi
theorem aq_callC {e : Nat → Option AV} {k args ts} (hi : C.inl k = false) : aopQ P C cp e g (.call ⟨.value (.func k), ⟨args⟩, ts⟩) = (optL (opnd e) args).bind fun as => (acallP cp g k as).bind fun r => if r.2.isEmpty = true then some r.1 else if aliasE 4 r.1 = false then some r.1 else none := by
  simp only [aopQ, opnd, ob_some, fnOf, List.nil_append, List.append_nil, hi, Bool.false_eq_true, if_false]
def fnQ (C : Cfg) (cp : CallP) (g : Id → Option Blk) (as : Option (List AV)) : AV → Option AV
  | .fn k first cap => as.bind fun as => if C.inl k = true then none else (acallP cp g k (first ++ as ++ cap)).bind fun r => if r.2.isEmpty = true then some r.1 else if aliasE 4 r.1 = false then some r.1 else none
  | _ => none
theorem fnQ_at {as : List AV} {k : FuncId} {first cap : List AV} (hi : C.inl k = false) : fnQ C cp g (some as) (.fn k first cap) = (acallP cp g k (first ++ as ++ cap)).bind fun r => if r.2.isEmpty = true then some r.1 else if aliasE 4 r.1 = false then some r.1 else none := by
  show (if C.inl k = true then none else _) = _
  rw [if_neg (by rw [hi]; decide)]
theorem aq_callv {e : Nat → Option AV} {t args ts} : aopQ P C cp e g (.call ⟨.value (.tmp t), ⟨args⟩, ts⟩) = (e t).bind (fnQ C cp g (optL (opnd e) args)) := by
  simp only [aopQ, opnd]
  congr 1
  funext x
  cases x <;> try rfl
theorem cut_app {a b : List α} {ext : Nat} (he : a.length ≠ ext) : cut (lm f (a ++ b)) 0 a.length 1 ext = lm f a := by
  unfold cut
  rw [if_neg (fun hh => he hh.2)]
  simp [lm]
theorem appI_2ik {d by_ : Nat} {id : Id} {n : Nat} {l : List Int} {x y : Int} {k : IntKind} (h3 : n + 2 ≤ 140737488355328) (h4 : (n + 2) * by_ ≤ 140737488355328) :
    appI lvl d 1 by_ h 2 [.v (.int k x), .v (.int k y)] id n n (.sl true true 1 n (lm (ik k) l)) = some (.own id 0 (n + 2) (n + 2), h.set id (.sl true true 1 (n + 2) (lm (ik k) (l ++ [x, y])))) := by
  rw [appI_at (by rfl) h3 h4 (by simp [AV.one])]
  simp [lm, ik]
def stH (P : Program) (t : TypeId) (h : Heap) (id : Id) (off : Nat) (ys : List AV) : Blk → Option (AV × Heap)
  | .bx rw cells => if ys.all AV.one = true then stG h id off 0 ys (.bx rw cells) else none
  | _ => stX P t h (.ptr id off 0) (.agg ys)
theorem stX_aggH {t : TypeId} {id : Id} {off w : Nat} {ys : List AV} (hsz : tsize P t = w) (h0 : 0 < w) (hl : ys.length = w) :
    stX P t h (.ptr id off 0) (.agg ys) = (h.get id).bind (stH P t h id off ys) := by
  cases hg : h.get id with
  | none =>
    unfold stX astore
    simp only [hg, ob_none]
    split <;> rfl
  | some b =>
    cases b with
    | sl a b c d e => rfl
    | bx rw cells =>
      simp only [ob_some, stH]
      by_cases h1 : ys.all AV.one = true
      · rw [if_pos h1]
        exact stX_agg (by rw [hsz, hl]) (by omega) h1 hg
      · rw [if_neg h1]
        unfold stX
        split
        · unfold astore
          simp only [hg, ob_some]
          rw [if_neg (fun hh => h1 hh.2.2)]; rfl
        · rfl
theorem stH_bx {t : TypeId} {id : Id} {off : Nat} {ys cells : List AV} (ho : off + ys.length ≤ cells.length) : stH P t h id off ys (.bx true cells) = if ys.all AV.one = true then some (.v undef, h.set id (.bx true (putCells cells off ys))) else none := by
  simp only [stH]
  rw [stG_bx ho]
theorem lm_app2 {l : List Int} {x y : Int} {k : IntKind} : lm (ik k) l ++ [.v (.int k x), .v (.int k y)] = lm (ik k) (l ++ [x, y]) := by simp [lm, ik]
def RIk := And.intro @kinB_at <| And.intro @kin_ret <| @kin_normal
theorem aop_mkf {d : Option Tmp} {f : FuncId} {first cap : List Operand} : aop P C cp ci lvl e h d (.makeFunc (.func f) ⟨first⟩ ⟨cap⟩) = qo lvl (d.getD 0) h ((optL (opnd e.get) first).bind fun a => (optL (opnd e.get) cap).bind fun b => some (.fn f a b)) := aop_any (fun _ _ _ h => by cases h) rfl
theorem boxX_agg {xs : List AV} : boxX (.agg xs) = if xs.all AV.one = true then some (.newbx xs) else none := rfl
theorem aq_bld {e : Nat → Option AV} {t ps} : aopQ P C cp e g (.build t ⟨ps⟩) = (optL (fun p : Nat × Operand => (opnd e p.2).bind fun y => some (p.1, y)) ps).bind fun ps => abuild P t ps := rfl
theorem aq_bsl {e : Nat → Option AV} {t m ps} (hC : (C.drops 0).isEmpty = true) : aopQ P C cp e g (.buildSlice t m ⟨ps⟩) = (optL (fun p : Nat × Operand => (opnd e p.2).bind fun y => some (p.1, y)) ps).bind fun ps => abuildSlice P t m ps := by
  show (if bsO (.buildSlice t m ⟨ps⟩) = true ∧ (C.drops 0).isEmpty = false then _ else _) = _
  rw [if_neg (by rw [hC]; simp)]
  rfl
theorem aq_bslS {e : Nat → Option AV} {t m ps} (hC : (C.drops 0).isEmpty = false) : aopQ P C cp e g (.buildSlice t m ⟨ps⟩) = ((optL (fun p : Nat × Operand => (opnd e p.2).bind fun y => some (p.1, y)) ps).bind fun ps => abuildSlice P t m ps).bind sealF := by
  show (if bsO (.buildSlice t m ⟨ps⟩) = true ∧ (C.drops 0).isEmpty = false then _ else _) = _
  rw [if_pos ⟨rfl, hC⟩]
  rfl
theorem sf_cons {sz m : Nat} {x : AV} {xs : List AV} : sealF (.fresh sz m (x :: xs)) = some (.arr m (x :: xs)) := by simp [sealF]
theorem sf_nil {sz : Nat} : sealF (.fresh sz 0 []) = some (.arr 0 []) := rfl
theorem aq_conv {e : Nat → Option AV} {src dst : TypeId} {x : Operand} : aopQ P C cp e g (.convert src dst x) = (opnd e x).bind (cvX P src dst) := rfl
theorem aq_box {e : Nat → Option AV} {t : TypeId} {x : Operand} : aopQ P C cp e g (.box t x) = (opnd e x).bind boxX := rfl
theorem aq_fd {e : Nat → Option AV} {t i : Nat} {x : Operand} : aopQ P C cp e g (.field t x i) = (opnd e x).bind (fdX P t i) := rfl
theorem aq_mk {e : Nat → Option AV} {t : TypeId} {x y : Operand} : aopQ P C cp e g (.makeSlice t x y) = (opnd e x).bind fun a => (opnd e y).bind fun b => mkX P t a b := rfl
theorem aq_slice {e : Nat → Option AV} {t : TypeId} {x : Operand} {lo hi} : aopQ P C cp e g (.slice t x lo hi none) = (opnd e x).bind fun a => (optS (opnd e) lo).bind fun l => (optS (opnd e) hi).bind fun r => aslice P t g a l r := rfl
theorem aq_ext {e : Nat → Option AV} {i : Nat} {x : Operand} : aopQ P C cp e g (.extract x i) = (opnd e x).bind (exT i) := by
  show ((opnd e x).bind fun a => match a with
    | .tuple xs => xs[i]?
    | _ => none) = _
  rfl
theorem aq_nck {e : Nat → Option AV} {x : Operand} : aopQ P C cp e g (.nilCheck x) = (opnd e x).bind (nck g) := by
  show ((opnd e x).bind fun y => match y with
    | .ptr id _ ext => if live g id ext = true then some y else none
    | .ref _ _ => some y
    | .fn _ _ _ => some y
    | _ => none) = _
  congr 1
  funext y
  cases y <;> try rfl
  rename_i id off ext
  have : ∀ b, g id = b → (if live g id ext = true then some (AV.ptr id off ext) else none) = b.bind (nckB (.ptr id off ext) ext) := fun b hb => by
    unfold live
    rw [hb]
    cases b <;> rfl
  exact this _ rfl
theorem aq_mkf {e : Nat → Option AV} {f : FuncId} {first cap : List Operand} : aopQ P C cp e g (.makeFunc (.func f) ⟨first⟩ ⟨cap⟩) = (optL (opnd e) first).bind fun a => (optL (opnd e) cap).bind fun b => some (.fn f a b) := rfl
theorem aq_alloc {e : Nat → Option AV} {t : TypeId} {z : List AV} (hz : tzero P t = some z) : aopQ P C cp e g (.alloc t) = some (.newbx z) := by
  show (tzero P t).bind _ = _
  rw [hz]; rfl
theorem aq_min {e : Nat → Option AV} {x y : Operand} {ts} : aopQ P C cp e g (.call ⟨.builtin .min, ⟨[x, y]⟩, ts⟩) = (opnd e x).bind fun a => (opnd e y).bind fun b => abuiltin P .min ts [a, b] := by
  simp only [aopQ, aq, optL]
  cases opnd e x <;> cases opnd e y <;> rfl
theorem aq_max {e : Nat → Option AV} {x y : Operand} {ts} : aopQ P C cp e g (.call ⟨.builtin .max, ⟨[x, y]⟩, ts⟩) = (opnd e x).bind fun a => (opnd e y).bind fun b => abuiltin P .max ts [a, b] := by
  simp only [aopQ, aq, optL]
  cases opnd e x <;> cases opnd e y <;> rfl
theorem nm_tuple {id : Id} {d : Nat} {xs : List AV} : names id (d + 1) (.tuple xs) = xs.any (names id d) := rfl
theorem shrink_at {k : Nat} : shrink prot k e h = (e.get k).bind (shrinkV prot k e h) := rfl
theorem shrinkV_own {k n' ext : Nat} {id : Id} : shrinkV prot k e h (.own id 0 n' ext) = (h.get id).bind (shrinkB prot k e h id n' ext) := rfl
theorem shrinkB_at {k n' e2 sz : Nat} {id : Id} {cells : List AV} (h1 : n' ≤ e2) : shrinkB prot k e h id n' e2 (.sl true true sz e2 cells) =
    if (memI prot id || (namedE id (e.drop [k]) || namedH id h)) = true then none else some (e.set k (.own id 0 n' n'), h.set id (.sl true true sz n' (cells.take (n' * sz)))) := by
  simp only [shrinkB]
  cases memI prot id <;> cases namedE id (e.drop [k]) <;> cases namedH id h <;> simp [h1]
theorem lm_take1 {l : List α} {k : Nat} : (lm f l).take (k * 1) = lm f (l.take k) := by simp [lm]
theorem aop_cap {d : Option Tmp} {x : Operand} {ts} : aop P C cp ci lvl e h d (.call ⟨.builtin .cap, ⟨[x]⟩, ts⟩) = qo lvl (d.getD 0) h ((opnd e.get x).bind fun a => abuiltin P .cap ts [a]) := by
  rw [aop_any (fun _ _ _ h => by cases h) rfl]
  simp only [aq, optL]
  cases opnd e.get x <;> rfl
theorem aq_cap {e : Nat → Option AV} {x : Operand} {ts} : aopQ P C cp e g (.call ⟨.builtin .cap, ⟨[x]⟩, ts⟩) = (opnd e x).bind fun a => abuiltin P .cap ts [a] := by
  simp only [aopQ, aq, optL]
  cases opnd e x <;> rfl
def slN (l r : Nat) : Option AV := if l = 0 ∧ r = 0 then some (.v (.slice none 0 0)) else none
theorem slN_at : slN 0 0 = some (.v (.slice none 0 0)) := rfl
def aixS (s : ByteArray) (i : Int) : Option AV := if 0 ≤ i then (s[i.toNat]?).bind fun b => some (.v (.int .u8 b.toNat)) else none
theorem aop_index {d : Option Tmp} {t : TypeId} {x y : Operand} : aop P C cp ci lvl e h d (.index t x y) = qo lvl (d.getD 0) h ((opnd e.get x).bind fun a => (opnd e.get y).bind fun b => (asI b).bind fun n => aindex P t a n) := aop_any (fun _ _ _ h => by cases h) rfl
theorem aq_index {e : Nat → Option AV} {t : TypeId} {x y : Operand} : aopQ P C cp e g (.index t x y) = (opnd e x).bind fun a => (opnd e y).bind fun b => (asI b).bind fun n => aindex P t a n := rfl
def sat? (s : ByteArray) (i : Int) : Option Int := if 0 ≤ i then (s[i.toNat]?).bind fun b => some (b.toNat : Int) else none
theorem J.sat {β : Type} {m : Option AV} {enc : β → AV} {s : ByteArray} {i : Int} {k : Int → Option β} (a : ∀ r, aixS s i = Option.some (.v (.int .u8 r)) → J m (k r) enc) : J m ((sat? s i).bind k) enc :=
  J.bind fun r hr => a r (by
    unfold sat? at hr
    unfold aixS
    split at hr
    · rename_i h0
      rw [if_pos h0]
      cases hs : s[i.toNat]? with
      | none => rw [hs] at hr; cases hr
      | some b => rw [hs] at hr; injection hr with hr; subst hr; rfl
    · cases hr)
theorem shrinkV_nil {k : Nat} : shrinkV prot k e h (.v (.slice none 0 0)) = some (e, h) := rfl
theorem openB_at {k sz c : Nat} : openB lvl k sz c e h = (e.get k).bind (openBV lvl k sz c h) := rfl
theorem openBV_at {k sz c : Nat} {id : Id} : openBV lvl k sz c h (.ptr id 0 0) = (h.get id).bind (openBB lvl k sz c h id) := rfl
theorem openBB_at {k sz c : Nat} {id : Id} {cells : List AV} : openBB lvl k sz c h id (.bx true cells) = (cells[c]?).bind (openBC lvl k sz c h id cells) := rfl
theorem openBC_at {k sz c : Nat} {id : Id} {cells : List AV} (hs : 0 < sz) (hs2 : ¬ 500 < sz) : openBC lvl k sz c h id cells (.v (.slice none 0 0)) = (h.new (lvl, k, 78 + c) (.sl true true sz 0 [])).bind fun h1 => some (h1.set id (.bx true (cells.set c (.own (lvl, k, 78 + c) 0 0 0)))) := by
  show (if sz = 0 then _ else (h.new (lvl, k, 78 + c) (if 500 < sz then _ else _)).bind _) = _
  rw [if_neg (by omega), if_neg hs2]
theorem appI_c1 {d esz by_ : Nat} {id : Id} {n : Nat} {cells ys : List AV} {y : AV} (h6 : 1 < esz) (h3 : n + 1 ≤ 140737488355328) (h4 : (n + 1) * by_ ≤ 140737488355328) :
    appI lvl d esz by_ h 1 (y :: ys) id n n (.sl true true esz n cells) = if (y :: ys).length = 1 * esz then (if (y :: ys).all AV.one = true then some (.own id 0 (n + 1) (n + 1), h.set id (.sl true true esz (n + 1) (cells ++ y :: ys))) else none) else none := by
  by_cases h2 : (y :: ys).length = 1 * esz
  · rw [if_pos h2]
    by_cases h5 : (y :: ys).all AV.one = true
    · rw [if_pos h5]; exact appI_at h2 h3 h4 h5
    · rw [if_neg h5]
      simp only [appI]
      rw [if_neg (fun hh => h5 hh.2.2.2.2.2.2)]
  · rw [if_neg h2]
    simp only [appI]
    rw [if_neg (fun hh => h2 hh.2.2.2.1)]
def newL (off m sz ext : Nat) (cs : List AV) : Option (Nat × List AV) := some (m, cut cs off m sz ext)
theorem newL_at {off m sz ext : Nat} {cs : List AV} : newL off m sz ext cs = some (m, cut cs off m sz ext) := rfl
theorem newB_open {off m ext : Nat} {r : Bool} {sz : Nat} {cells : List AV} : newB g off m ext (.sl false r sz ext cells) = (optL (exportV g 3) cells).bind (newL off m sz ext) := by
  simp only [newB, exB, mapM_optL, if_true]
  cases optL (exportV g 3) cells <;> rfl
theorem innerB_open {r : Bool} {sz ext : Nat} {cells : List AV} : innerB g (some (.sl false r sz ext cells)) = (cells.map (borrowed g 3)).flatten := rfl
def RH := And.intro @Int.toNat_zero <| And.intro @fnQ_at <| And.intro @aq_callv <| And.intro @appI_c1 <| And.intro @newL_at <| And.intro @newB_open <| And.intro @innerB_open <| And.intro @gopen_own <| And.intro @gopen_arr <| And.intro @shrinkV_nil <| And.intro @gpost_openB <| And.intro @openB_at <| And.intro @openBV_at <| And.intro @openBB_at <| And.intro @openBC_at <| And.intro @dropO_keep <| And.intro @slN_at <| And.intro @aop_index <| And.intro @aq_index <| And.intro @gpost_shrink <| And.intro @gshr_at <| And.intro @shrink_at <| And.intro @shrinkV_own <| And.intro @shrinkB_at <| And.intro @lm_take1 <| And.intro @aop_cap <| And.intro @aq_cap <| And.intro @List.take_zero.{0} <| And.intro @Nat.zero_mul <| And.intro @nm_tuple <| And.intro @aq_bld <| And.intro @aq_bsl <| And.intro @aq_bslS <| And.intro @sf_cons <| And.intro @sf_nil <| And.intro @aq_conv <| And.intro @aq_box <| And.intro @aq_fd <| And.intro @aq_mk <| And.intro @aq_slice <| And.intro @aq_ext <| And.intro @aq_nck <| And.intro @aq_mkf <| And.intro @aq_min <| And.intro @aq_max <| And.intro @boxX_agg <| And.intro @stH_bx <| @aop_mkf
theorem fnX_inl {dd : Nat} {as : List AV} {k : FuncId} {first cap : List AV} (hi : C.inl k = true) : fnX C cp ci lvl dd h (some as) (.fn k first cap) = ci (lvl + 1) k (first ++ as ++ cap) h := by simp [fnX, hi]
def RI := And.intro @fnX_inl <| And.intro @lm_app2 <| And.intro @lvlOf_nil <| And.intro @lvlOf_cons <| And.intro @lvlX_le <| And.intro @lvlX_gt <| And.intro @keys_nil <| And.intro @keys_cons <| And.intro @ciE_at <| And.intro @ciE_miss <| And.intro @aop_inl <| And.intro @aop_callC <| And.intro @aq_callC <|
  And.intro @cut_app <| And.intro @appI_2ik <| And.intro @rv_tmp <| And.intro @rv_cell <| And.intro @one_1 <| And.intro @one_0 <| And.intro @one_2 <| And.intro @Nat.sub_zero <| @Nat.zero_mul
variable {β : Type} {s : Option β} {enc : β → AV}
def kinV (P : Program) (rs : List ResultVar) (h0 : Heap) (e : Env) (h' : Heap) : Option (AV × Heap) := (optL (resultV P e h') rs).bind fun rs => some (one rs, sweep (keys h0) [(0, one rs)] h')
def kinVB (h0 h' : Heap) (rs : List AV) : Option (AV × Heap) := some (one rs, sweep (keys h0) [(0, one rs)] h')
theorem kinV_at {rs : List ResultVar} {h0 h' : Heap} : kinV P rs h0 e h' = (optL (resultV P e h') rs).bind (kinVB h0 h') := rfl
theorem kinVB_at {h0 h' : Heap} {rs : List AV} : kinVB h0 h' rs = some (one rs, sweep (keys h0) [(0, one rs)] h') := rfl
end
end Go.Av
