/- The interpreter as a machine with a list of frames; when a plain function tells what it makes (J); rules. Conditions: those that each names. -/
import Derived.Test.YteafmomjfnlkgaaGreatSh4
set_option linter.unusedVariables false
namespace Go.Av
inductive Fr where
  | seq (b : Code)
  | seqr (b : Code)
  | block (id : Nat)
  | loop (c : Code) (k : Nat)
  | sw
  | bar
abbrev KK := Ex → Env → Heap → Option AV
section
variable (P : Program) (C : Cfg) (cp : CallP) (ci : CallI) (lvl : Nat) (prot : List Id) (D : List (Nat × List Nat)) (n : Nat) (K : KK)
def ret : List Fr → KK
  | [] => K
  | .seq b :: fs => fun y e h => match y with
    | .normal => (exec P C cp ci lvl prot D n b e h).bind fun r => ret fs r.1 r.2.1 r.2.2
    | y => ret fs y e h
  | .seqr b :: fs => fun y e h => match y with
    | .normal => (exec P C cp ci lvl prot D n b e h).bind fun r => ret fs r.1 r.2.1 r.2.2
    | y => ret fs y e h
  | .block id :: fs => fun y e h => match y with
    | .exit j => if j = id then (post lvl prot (D.getD (2 * id + 1) (0, [])).2 (e.drop (D.getD (2 * id + 1) (0, [])).2) h).bind fun r => ret fs .normal r.1 r.2 else ret fs (.exit j) e h
    | .normal => (post lvl prot (D.getD (2 * id + 1) (0, [])).2 (e.drop (D.getD (2 * id + 1) (0, [])).2) h).bind fun r => ret fs .normal r.1 r.2
    | .ret => ret fs .ret e h
  | .sw :: fs => fun y e h => match y with
    | .normal => ret fs .normal e (sweep prot e h)
    | y => ret fs y e h
  | .loop c k :: fs => fun y e h => match y with
    | .normal => (aloop prot (exec P C cp ci lvl prot D n c) k e h).bind fun r => ret fs r.1 r.2.1 r.2.2
    | y => ret fs y e h
  | .bar :: fs => ret fs
def go (c : Code) (e : Env) (h : Heap) (fs : List Fr) : Option AV := (exec P C cp ci lvl prot D n c e h).bind fun r => ret P C cp ci lvl prot D n K fs r.1 r.2.1 r.2.2
def gl (c : Code) (k : Nat) (e : Env) (h : Heap) (fs : List Fr) : Option AV := (aloop prot (exec P C cp ci lvl prot D n c) k e h).bind fun r => ret P C cp ci lvl prot D n K fs r.1 r.2.1 r.2.2
def gpost (ds : List Nat) (e : Env) (h : Heap) (fs : List Fr) : Option AV := (post lvl prot ds e h).bind fun r => ret P C cp ci lvl prot D n K fs .normal r.1 r.2
def gops (all os : List Oper) (e : Env) (h : Heap) (dr : Nat × List Nat) (fs : List Fr) : Option AV := (aops P C cp ci lvl all os e h).bind fun r => gpost P C cp ci lvl prot D n K dr.2 (r.1.drop dr.2) r.2 fs
def gopsQ (k : Nat) (all os : List Oper) (e : Env) (h : Heap) (dr : Nat × List Nat) (fs : List Fr) : Option AV := (aopsQ P C cp ci lvl all k os e h).bind fun r => gpost P C cp ci lvl prot D n K dr.2 (r.1.drop dr.2) r.2 fs
def gnext (all os : List Oper) (d : Option Tmp) (e : Env) (dr : Nat × List Nat) (fs : List Fr) (r : AV × Heap) : Option AV := gops P C cp ci lvl prot D n K all os (putE e d r.1) r.2 dr fs
def gnextQ (k : Nat) (all os : List Oper) (d : Option Tmp) (e : Env) (dr : Nat × List Nat) (fs : List Fr) (r : AV × Heap) : Option AV := gopsQ P C cp ci lvl prot D n K k all os (putE e d r.1) r.2 dr fs
def gwant (r : Option (AV × Heap)) (all os : List Oper) (d : Option Tmp) (e : Env) (h : Heap) (dr : Nat × List Nat) (fs : List Fr) (wd : Bool) : Option AV :=
  if wd = true then r.bind (gnext P C cp ci lvl prot D n K all os d e dr fs) else gops P C cp ci lvl prot D n K all os (putE e d (.v undef)) h dr fs
def gwantQ (k : Nat) (r : Option (AV × Heap)) (all os : List Oper) (d : Option Tmp) (e : Env) (h : Heap) (dr : Nat × List Nat) (fs : List Fr) (wd : Bool) : Option AV :=
  if wd = true then r.bind (gnextQ P C cp ci lvl prot D n K k all os d e dr fs) else gopsQ P C cp ci lvl prot D n K k all os (putE e d (.v undef)) h dr fs
def gcond (a b : Code) (e : Env) (h : Heap) (fs : List Fr) : AV → Option AV
  | .v (.bool true) => go P C cp ci lvl prot D n K a e h (.sw :: fs)
  | .v (.bool false) => go P C cp ci lvl prot D n K b e h (.sw :: fs)
  | _ => none
end
section
variable {P : Program} {C : Cfg} {cp : CallP} {ci : CallI} {lvl : Nat} {prot : List Id} {D : List (Nat × List Nat)} {n : Nat} {K : KK}
variable {e : Env} {h : Heap} {fs : List Fr} {a b c : Code} {all os : List Oper} {dr : Nat × List Nat}
theorem go_skip : go P C cp ci lvl prot D n K .skip e h fs = ret P C cp ci lvl prot D n K fs .normal e h := rfl
theorem go_label {l} : go P C cp ci lvl prot D n K (.label l) e h fs = ret P C cp ci lvl prot D n K fs .normal e h := rfl
theorem go_ret : go P C cp ci lvl prot D n K .ret e h fs = ret P C cp ci lvl prot D n K fs .ret e h := rfl
theorem go_exit {i} : go P C cp ci lvl prot D n K (.exit i) e h fs = ret P C cp ci lvl prot D n K fs (.exit i) e h := rfl
theorem go_scope : go P C cp ci lvl prot D n K (.scope c) e h fs = go P C cp ci lvl prot D n K c e h fs := rfl
theorem go_seq : go P C cp ci lvl prot D n K (.seq a b) e h fs = go P C cp ci lvl prot D n K a e h (.seq b :: fs) := by
  unfold go
  rw [exec_seq]
  cases exec P C cp ci lvl prot D n a e h with
  | none => rfl
  | some r => rcases r with ⟨_ | _ | _, _, _⟩ <;> rfl
def plainR (ops : List Oper) : Bool := ops.all fun o => o.guard.isNone
theorem go_seqr {i : Nat} {ops : List Oper} {d : Bool} (hp : plainR ops = true) : go P C cp ci lvl prot D n K (.seq (.region i ⟨ops⟩ d) b) e h fs = go P C cp ci lvl prot D n K (.region i ⟨ops⟩ d) e h (.seqr b :: fs) := go_seq.trans rfl
theorem go_block {i} : go P C cp ci lvl prot D n K (.block i c) e h fs = go P C cp ci lvl prot D n K c e h (.block i :: fs) := by
  unfold go
  rw [exec_block]
  cases exec P C cp ci lvl prot D n c e h with
  | none => rfl
  | some r =>
    rcases r with ⟨_ | j | _, e1, h1⟩
    · simp only [ob_some, blockX, ret, dropX]
      cases post lvl prot (D.getD (2 * i + 1) (0, [])).2 (e1.drop (D.getD (2 * i + 1) (0, [])).2) h1 <;> rfl
    · simp only [ob_some, blockX, ret]
      by_cases hj : j = i
      · rw [if_pos hj, if_pos hj]
        simp only [dropX]
        cases post lvl prot (D.getD (2 * i + 1) (0, [])).2 (e1.drop (D.getD (2 * i + 1) (0, [])).2) h1 <;> rfl
      · rw [if_neg hj, if_neg hj]; rfl
    · rfl
theorem go_loop : go P C cp ci lvl prot D n K (.loop c) e h fs = gl P C cp ci lvl prot D n K c n e h fs := rfl
theorem go_cond {o : Operand} : go P C cp ci lvl prot D n K (.cond o a b) e h fs = (opnd e.get o).bind (gcond P C cp ci lvl prot D n K a b (dropO D o e) h fs) := by
  have hx : ∀ c e h, ((exec P C cp ci lvl prot D n c e h).bind (sweepX prot)).bind (fun r => ret P C cp ci lvl prot D n K fs r.1 r.2.1 r.2.2) = go P C cp ci lvl prot D n K c e h (.sw :: fs) := fun c e h => by
    unfold go
    cases exec P C cp ci lvl prot D n c e h with
    | none => rfl
    | some r => rcases r with ⟨_ | _ | _, _, _⟩ <;> rfl
  unfold go
  rw [exec_cond]
  cases opnd e.get o with
  | none => rfl
  | some y =>
    rcases y with x | _ | _ | _ | _ | _ | _ | _ | _ | _ | _ <;> try rfl
    rcases x with _ | _ | _ | _ | _ | _ | _ | _ | _ | _ | _ | _ <;> try rfl
    rename_i t
    cases t
    · exact hx b (dropO D o e) h
    · exact hx a (dropO D o e) h
theorem dropO_tmp {t : Tmp} (hd : (D.getD (2 * t + 1) (0, [])).1 = 0) : dropO D (.tmp t) e = e.drop [t] := if_pos hd
theorem dropO_keep {t : Tmp} (hd : (D.getD (2 * t + 1) (0, [])).1 = 1) : dropO D (.tmp t) e = e := if_neg (by rw [hd]; decide)
theorem dropO_const {x : Value} : dropO D (.const x) e = e := rfl
theorem gcond_t : gcond P C cp ci lvl prot D n K a b e h fs (.v (.bool true)) = go P C cp ci lvl prot D n K a e h (.sw :: fs) := rfl
theorem gcond_f : gcond P C cp ci lvl prot D n K a b e h fs (.v (.bool false)) = go P C cp ci lvl prot D n K b e h (.sw :: fs) := rfl
theorem go_region {i : Nat} {ops : List Oper} : go P C cp ci lvl prot D n K (.region i ⟨ops⟩ false) e h fs = gops P C cp ci lvl prot D n K ops ops e h (D.getD (2 * i) (0, [])) fs := by
  unfold go gops
  rw [exec_region]
  cases aops P C cp ci lvl ops ops e h with
  | none => rfl
  | some r =>
    simp only [ob_some, dropX, gpost]
    cases post lvl prot (D.getD (2 * i) (0, [])).2 (r.1.drop (D.getD (2 * i) (0, [])).2) r.2 <;> rfl
theorem go_draw {i : Nat} {ops : List Oper} (hk : (D.getD (2 * i) (0, [])).1 < 1000) : go P C cp ci lvl prot D n K (.region i ⟨ops⟩ true) e h fs = gopsQ P C cp ci lvl prot D n K (D.getD (2 * i) (0, [])).1 ops ops e h (D.getD (2 * i) (0, [])) fs := by
  unfold go gopsQ
  rw [exec_draw]
  unfold aopsW
  rw [if_pos hk]
  cases aopsQ P C cp ci lvl ops (D.getD (2 * i) (0, [])).1 ops e h with
  | none => rfl
  | some r =>
    simp only [ob_some, dropX, gpost]
    cases post lvl prot (D.getD (2 * i) (0, [])).2 (r.1.drop (D.getD (2 * i) (0, [])).2) r.2 <;> rfl
theorem ret_nil {y} : ret P C cp ci lvl prot D n K [] y e h = K y e h := rfl
theorem ret_seq : ret P C cp ci lvl prot D n K (.seq b :: fs) .normal e h = go P C cp ci lvl prot D n K b e h fs := rfl
theorem ret_seqr : ret P C cp ci lvl prot D n K (.seqr b :: fs) .normal e h = go P C cp ci lvl prot D n K b e h fs := rfl
theorem ret_seqr_ret : ret P C cp ci lvl prot D n K (.seqr b :: fs) .ret e h = ret P C cp ci lvl prot D n K fs .ret e h := rfl
theorem ret_seqr_exit {i} : ret P C cp ci lvl prot D n K (.seqr b :: fs) (.exit i) e h = ret P C cp ci lvl prot D n K fs (.exit i) e h := rfl
theorem ret_seq_ret : ret P C cp ci lvl prot D n K (.seq b :: fs) .ret e h = ret P C cp ci lvl prot D n K fs .ret e h := rfl
theorem ret_seq_exit {i} : ret P C cp ci lvl prot D n K (.seq b :: fs) (.exit i) e h = ret P C cp ci lvl prot D n K fs (.exit i) e h := rfl
theorem ret_block {i} : ret P C cp ci lvl prot D n K (.block i :: fs) .normal e h = gpost P C cp ci lvl prot D n K (D.getD (2 * i + 1) (0, [])).2 (e.drop (D.getD (2 * i + 1) (0, [])).2) h fs := rfl
theorem ret_sw : ret P C cp ci lvl prot D n K (.sw :: fs) .normal e h = ret P C cp ci lvl prot D n K fs .normal e (sweep prot e h) := rfl
theorem ret_sw_ret : ret P C cp ci lvl prot D n K (.sw :: fs) .ret e h = ret P C cp ci lvl prot D n K fs .ret e h := rfl
theorem ret_sw_exit {i} : ret P C cp ci lvl prot D n K (.sw :: fs) (.exit i) e h = ret P C cp ci lvl prot D n K fs (.exit i) e h := rfl
theorem ret_block_ret {i} : ret P C cp ci lvl prot D n K (.block i :: fs) .ret e h = ret P C cp ci lvl prot D n K fs .ret e h := rfl
theorem ret_block_exit {i j} : ret P C cp ci lvl prot D n K (.block i :: fs) (.exit j) e h = if j = i then gpost P C cp ci lvl prot D n K (D.getD (2 * i + 1) (0, [])).2 (e.drop (D.getD (2 * i + 1) (0, [])).2) h fs else ret P C cp ci lvl prot D n K fs (.exit j) e h := rfl
theorem ret_loop {k} : ret P C cp ci lvl prot D n K (.loop c k :: fs) .normal e h = gl P C cp ci lvl prot D n K c k e h fs := rfl
theorem ret_loop_ret {k} : ret P C cp ci lvl prot D n K (.loop c k :: fs) .ret e h = ret P C cp ci lvl prot D n K fs .ret e h := rfl
theorem ret_loop_exit {k i} : ret P C cp ci lvl prot D n K (.loop c k :: fs) (.exit i) e h = ret P C cp ci lvl prot D n K fs (.exit i) e h := rfl
theorem ret_bar_ret : ret P C cp ci lvl prot D n K (.bar :: fs) .ret e h = ret P C cp ci lvl prot D n K fs .ret e h := rfl
theorem ret_bar_exit {i} : ret P C cp ci lvl prot D n K (.bar :: fs) (.exit i) e h = ret P C cp ci lvl prot D n K fs (.exit i) e h := rfl
theorem gops_nil {k ds} : gops P C cp ci lvl prot D n K all [] e h (k, ds) fs = gpost P C cp ci lvl prot D n K ds (e.drop ds) h fs := rfl
theorem gops_free {d op ty pos after} : gops P C cp ci lvl prot D n K all (⟨d, op, ty, pos, after, none⟩ :: os) e h dr fs =
  (aop P C cp ci lvl e h d op).bind (gnext P C cp ci lvl prot D n K all os d e dr fs) := by
  unfold gops
  rw [aops_free]
  cases aop P C cp ci lvl e h d op <;> rfl
theorem gnext_at {d y} : gnext P C cp ci lvl prot D n K all os d e dr fs (y, h) = gops P C cp ci lvl prot D n K all os (putE e d y) h dr fs := rfl
theorem gops_guard {d op ty pos after g} : gops P C cp ci lvl prot D n K all (⟨d, op, ty, pos, after, some g⟩ :: os) e h dr fs =
  (wantedF all e.get ⟨d, op, ty, pos, after, some g⟩).bind (gwant P C cp ci lvl prot D n K (aop P C cp ci lvl e h d op) all os d e h dr fs) := by
  unfold gops
  rw [aops_guard]
  cases wantedF all e.get ⟨d, op, ty, pos, after, some g⟩ with
  | none => rfl
  | some wd =>
    cases wd with
    | false => rfl
    | true =>
      simp only [ob_some, wantX_true, gwant, if_true]
      cases aop P C cp ci lvl e h d op <;> rfl
theorem gwant_t {r d} : gwant P C cp ci lvl prot D n K r all os d e h dr fs true = r.bind (gnext P C cp ci lvl prot D n K all os d e dr fs) := rfl
theorem gwant_f {r d} : gwant P C cp ci lvl prot D n K r all os d e h dr fs false = gops P C cp ci lvl prot D n K all os (putE e d (.v undef)) h dr fs := rfl
theorem gopsQ_zero : gopsQ P C cp ci lvl prot D n K 0 all os e h dr fs = gops P C cp ci lvl prot D n K all os e h dr fs := by
  unfold gopsQ gops; rw [aopsQ_zero]
theorem gopsQ_nil {k k' ds} : gopsQ P C cp ci lvl prot D n K (k + 1) all [] e h (k', ds) fs = gpost P C cp ci lvl prot D n K ds (e.drop ds) h fs := rfl
theorem gopsQ_free {k d op ty pos after} : gopsQ P C cp ci lvl prot D n K (k + 1) all (⟨d, op, ty, pos, after, none⟩ :: os) e h dr fs =
  (qo lvl (d.getD 0) h (aopQ P C cp e.get h.get op)).bind (gnextQ P C cp ci lvl prot D n K k all os d e dr fs) := by
  unfold gopsQ
  rw [aopsQ_free]
  cases qo lvl (d.getD 0) h (aopQ P C cp e.get h.get op) <;> rfl
theorem gnextQ_at {k d y} : gnextQ P C cp ci lvl prot D n K k all os d e dr fs (y, h) = gopsQ P C cp ci lvl prot D n K k all os (putE e d y) h dr fs := rfl
theorem gopsQ_guard {k d op ty pos after g} : gopsQ P C cp ci lvl prot D n K (k + 1) all (⟨d, op, ty, pos, after, some g⟩ :: os) e h dr fs =
  (wantedF all e.get ⟨d, op, ty, pos, after, some g⟩).bind (gwantQ P C cp ci lvl prot D n K k (qo lvl (d.getD 0) h (aopQ P C cp e.get h.get op)) all os d e h dr fs) := by
  unfold gopsQ
  rw [aopsQ_guard]
  cases wantedF all e.get ⟨d, op, ty, pos, after, some g⟩ with
  | none => rfl
  | some wd =>
    cases wd with
    | false => rfl
    | true =>
      simp only [ob_some, wantX_true, gwantQ, if_true]
      cases qo lvl (d.getD 0) h (aopQ P C cp e.get h.get op) <;> rfl
theorem gwantQ_t {k r d} : gwantQ P C cp ci lvl prot D n K k r all os d e h dr fs true = r.bind (gnextQ P C cp ci lvl prot D n K k all os d e dr fs) := rfl
theorem gwantQ_f {k r d} : gwantQ P C cp ci lvl prot D n K k r all os d e h dr fs false = gopsQ P C cp ci lvl prot D n K k all os (putE e d (.v undef)) h dr fs := rfl
theorem gpost_nil : gpost P C cp ci lvl prot D n K [] e h fs = ret P C cp ci lvl prot D n K fs .normal e h := rfl
theorem gpost_drop {k ks} (hk : k < 1000000) : gpost P C cp ci lvl prot D n K (k :: ks) e h fs = gpost P C cp ci lvl prot D n K ks e h fs := by
  simp only [gpost, post, if_pos hk]
def gopen (P : Program) (C : Cfg) (cp : CallP) (ci : CallI) (lvl : Nat) (prot : List Id) (D : List (Nat × List Nat)) (n : Nat) (K : KK) (k : Nat) (ks : List Nat) (e : Env) (h : Heap) (fs : List Fr) : AV → Option AV
  | .v (.slice none 0 0) => (h.new (lvl, k % 1000000, 77) (opnB (k / 1000000))).bind fun h' => gpost P C cp ci lvl prot D n K ks (e.set (k % 1000000) (.own (lvl, k % 1000000, 77) 0 0 0)) h' fs
  | _ => gpost P C cp ci lvl prot D n K ks e h fs
theorem gpost_open {k ks} (hk : 1000000 ≤ k) (hk2 : k < 1000000000) : gpost P C cp ci lvl prot D n K (k :: ks) e h fs = (e.get (k % 1000000)).bind (gopen P C cp ci lvl prot D n K k ks e h fs) := by
  simp only [gpost, post, if_neg (show ¬ k < 1000000 by omega), if_pos hk2]
  cases e.get (k % 1000000) with
  | none => rfl
  | some x =>
    rw [ob_some]
    unfold gopen
    split
    · rename_i he
      injection he with he
      subst he
      cases h.new (lvl, k % 1000000, 77) (opnB (k / 1000000)) <;> rfl
    · rename_i y hne he
      injection he with he
      subst he
      split
      · exact (hne rfl).elim
      · rfl
    · rename_i he
      cases he
theorem gopen_own {k ks id o m x} : gopen P C cp ci lvl prot D n K k ks e h fs (.own id o m x) = gpost P C cp ci lvl prot D n K ks e h fs := rfl
theorem gopen_arr {k ks m xs} : gopen P C cp ci lvl prot D n K k ks e h fs (.arr m xs) = gpost P C cp ci lvl prot D n K ks e h fs := rfl
theorem gopen_ob {k ks} (hk : 500 < k / 1000000) : gopen P C cp ci lvl prot D n K k ks e h fs (.v (.slice none 0 0)) = (h.new (lvl, k % 1000000, 77) (.sl false true (k / 1000000 - 500) 0 [])).bind fun h' => gpost P C cp ci lvl prot D n K ks (e.set (k % 1000000) (.own (lvl, k % 1000000, 77) 0 0 0)) h' fs := by
  show (h.new _ (opnB _)).bind _ = _
  unfold opnB
  rw [if_pos hk]
theorem gopen_at {k ks} (hk : ¬ 500 < k / 1000000) : gopen P C cp ci lvl prot D n K k ks e h fs (.v (.slice none 0 0)) = (h.new (lvl, k % 1000000, 77) (.sl true true (k / 1000000) 0 [])).bind fun h' => gpost P C cp ci lvl prot D n K ks (e.set (k % 1000000) (.own (lvl, k % 1000000, 77) 0 0 0)) h' fs := by
  show (h.new _ (opnB _)).bind _ = _
  unfold opnB
  rw [if_neg hk]
theorem gpost_sweep {k ks} (hk : 2000000000 ≤ k) (hk2 : k < 3000000000) : gpost P C cp ci lvl prot D n K (k :: ks) e h fs = gpost P C cp ci lvl prot D n K ks e (sweep prot e h) fs := by
  simp only [gpost, post, if_neg (show ¬ k < 1000000 by omega), if_neg (show ¬ k < 1000000000 by omega), if_neg (show ¬ 4000000000 ≤ k by omega), if_neg (show ¬ 3000000000 ≤ k by omega), if_pos hk]
def gshr (P : Program) (C : Cfg) (cp : CallP) (ci : CallI) (lvl : Nat) (prot : List Id) (D : List (Nat × List Nat)) (n : Nat) (K : KK) (ks : List Nat) (fs : List Fr) (r : Env × Heap) : Option AV := gpost P C cp ci lvl prot D n K ks r.1 r.2 fs
theorem gshr_at {ks} : gshr P C cp ci lvl prot D n K ks fs (e, h) = gpost P C cp ci lvl prot D n K ks e h fs := rfl
theorem gpost_shrink {k ks} (hk : 3000000000 ≤ k) (hk2 : k < 4000000000) : gpost P C cp ci lvl prot D n K (k :: ks) e h fs = (shrink prot (k % 1000000) e h).bind (gshr P C cp ci lvl prot D n K ks fs) := by
  simp only [gpost, post, if_neg (show ¬ k < 1000000 by omega), if_neg (show ¬ k < 1000000000 by omega), if_neg (show ¬ 4000000000 ≤ k by omega), if_pos hk]
  cases shrink prot (k % 1000000) e h <;> rfl
theorem gpost_openB {k ks} (hk : 4000000000 ≤ k) : gpost P C cp ci lvl prot D n K (k :: ks) e h fs = (openB lvl (k % 1000000) (k / 1000000 % 1000) (k / 1000000000 - 4) e h).bind fun h' => gpost P C cp ci lvl prot D n K ks e h' fs := by
  simp only [gpost, post, if_neg (show ¬ k < 1000000 by omega), if_neg (show ¬ k < 1000000000 by omega), if_pos hk]
  cases openB lvl (k % 1000000) (k / 1000000 % 1000) (k / 1000000000 - 4) e h <;> rfl
theorem gpost_seal {k ks} (hk : 1000000000 ≤ k) (hk2 : k < 2000000000) : gpost P C cp ci lvl prot D n K (k :: ks) e h fs = (e.get (k % 1000000)).bind fun x => (exportV h.get 4 x).bind fun y =>
   gpost P C cp ci lvl prot D n K ks (e.set (k % 1000000) y) (freezeAll h (borrowed h.get 4 x)) fs := by
  simp only [gpost, post, if_neg (show ¬ k < 1000000 by omega), if_neg (show ¬ k < 1000000000 by omega), if_neg (show ¬ 4000000000 ≤ k by omega), if_neg (show ¬ 3000000000 ≤ k by omega), if_neg (show ¬ 2000000000 ≤ k by omega)]
  cases e.get (k % 1000000) with
  | none => rfl
  | some x =>
    simp only [ob_some]
    cases exportV h.get 4 x <;> rfl
end
def J {β : Type} (m : Option AV) (s : Option β) (enc : β → AV) : Prop := ∀ b, s = some b → m = some (enc b)
def chk {β : Type} (c : Prop) [Decidable c] (s : Option β) : Option β := if c then s else none
def at? {α : Type} (l : List α) (i : Int) : Option α := if 0 ≤ i then l[i.toNat]? else none
def cloop {σ β : Type} (body : (σ → Option β) → σ → Option β) : Nat → σ → Option β
  | 0, _ => none
  | n + 1, s => body (cloop body n) s
theorem at?_some {α : Type} {l : List α} {i : Int} {x : α} (h : at? l i = some x) : 0 ≤ i ∧ i < l.length ∧ l[i.toNat]? = some x := by
  unfold at? at h
  split at h
  · rename_i h0
    have := (List.getElem?_eq_some_iff.1 h).1
    exact ⟨h0, by omega, h⟩
  · cases h
section
variable {β : Type} {m m' : Option AV} {s s1 s2 : Option β} {enc : β → AV}
theorem J.none : J m (none : Option β) enc := fun b h => by cases h
theorem J.some {b : β} (h : m = some (enc b)) : J m (some b) enc := fun b' hb => by injection hb with hb; subst hb; exact h
theorem J.eq (h : m = m') (j : J m' s enc) : J m s enc := by subst h; exact j
theorem J.ite {c : Prop} [Decidable c] (a : c → J m s1 enc) (b : ¬ c → J m s2 enc) : J m (if c then s1 else s2) enc := by
  by_cases h : c
  · rw [if_pos h]; exact a h
  · rw [if_neg h]; exact b h
theorem J.chk {c : Prop} [Decidable c] (a : c → J m s enc) : J m (chk c s) enc := by
  unfold Go.Av.chk
  exact J.ite a fun _ => J.none
theorem J.bind {γ : Type} {f : Option γ} {k : γ → Option β} (a : ∀ r, f = Option.some r → J m (k r) enc) : J m (f.bind k) enc := fun b h => by
  cases f with
  | none => cases h
  | some r => exact a r rfl b h
theorem J.at {γ : Type} {l : List γ} {i : Int} {k : γ → Option β} (a : ∀ r, 0 ≤ i → i < l.length → l[i.toNat]? = Option.some r → J m (k r) enc) : J m ((at? l i).bind k) enc :=
  J.bind fun r hr => by obtain ⟨h0, h1, h2⟩ := at?_some hr; exact a r h0 h1 h2
variable {P : Program} {C : Cfg} {cp : CallP} {ci : CallI} {lvl : Nat} {prot : List Id} {D : List (Nat × List Nat)} {n : Nat} {K : KK}
variable {e : Env} {h : Heap} {fs : List Fr} {a b c : Code}
theorem J.loop {σ : Type} (st : σ → Env × Heap) (body : (σ → Option β) → σ → Option β) {s0 : σ} (he : e = (st s0).1) (hh : sweep prot e h = (st s0).2)
    (hb : ∀ (next : σ → Option β) (k : Nat), (∀ s e h, e = (st s).1 → sweep prot e h = (st s).2 → J (gl P C cp ci lvl prot D n K c k e h fs) (next s) enc) →
      ∀ s, J (go P C cp ci lvl prot D n K c (st s).1 (st s).2 (.loop c k :: fs)) (body next s) enc) {m : Nat} :
    J (gl P C cp ci lvl prot D n K c m e h fs) (cloop body m s0) enc := by
  induction m generalizing s0 e h with
  | zero => exact J.none
  | succ m ih =>
    have := hb (cloop body m) m (fun s e h he hh => ih he hh) s0
    rw [← he, ← hh] at this
    refine J.eq ?_ this
    unfold gl
    simp only [aloop, go]
    cases exec P C cp ci lvl prot D n c e (sweep prot e h) with
    | none => rfl
    | some r => rcases r with ⟨_ | _ | _, _, _⟩ <;> rfl
theorem J.next {σ : Type} {st : σ → Env × Heap} {next : σ → Option β} {k : Nat} (hn : ∀ s e h, e = (st s).1 → sweep prot e h = (st s).2 → J (gl P C cp ci lvl prot D n K c k e h fs) (next s) enc) {s : σ}
    (he : e = (st s).1) (hh : sweep prot e h = (st s).2) : J (gl P C cp ci lvl prot D n K c k e h fs) (next s) enc := hn s e h he hh
theorem J.joinS {τ : Type} (st : τ → Env × Heap) (fj : τ → Option β) (h1 : ∀ t, J (go P C cp ci lvl prot D n K b (st t).1 (st t).2 fs) (fj t) enc)
    (h2 : (∀ t, J (ret P C cp ci lvl prot D n K (.bar :: .seq b :: fs) .normal (st t).1 (st t).2) (fj t) enc) → J (go P C cp ci lvl prot D n K a e h (.bar :: .seq b :: fs)) s enc) :
    J (go P C cp ci lvl prot D n K (.seq a b) e h fs) s enc := by
  exact J.eq go_seq (J.eq rfl (h2 fun t => h1 t))
def fin (P : Program) (rs : List ResultVar) (ts : List TypeId) : KK := fun y e h => match y with
  | .exit _ => none
  | _ => finX P ⟨.skip, rs, ts⟩ e h
theorem fin_ret {rs ts} : fin P rs ts .ret e h = finX P ⟨.skip, rs, ts⟩ e h := rfl
theorem fin_normal {rs ts} : fin P rs ts .normal e h = finX P ⟨.skip, rs, ts⟩ e h := rfl
theorem pure_J (hm : P.follows .mixedOrders = true) (hcp : CpOK P cp) (hci : CiOK P ci) {f : FuncId} {i : FInfo} (hi : finfo P f D = some i) {args : List AV}
    (j : J (go P C cp ci 0 [] D n (fin P i.results i.types) i.code (initE 0 args) [] []) s enc) {b : β} (hb : s = some b) : PureOK P f args (enc b) := by
  refine bodyP_ok hm (C := C) hcp hci (n := n) hi ?_
  have := j b hb
  unfold go at this
  unfold bodyP
  cases hx : exec P C cp ci 0 [] D n i.code (initE 0 args) [] with
  | none => rw [hx] at this; cases this
  | some r =>
    rw [hx] at this
    rcases r with ⟨_ | _ | _, _, _⟩
    · exact this
    · cases this
    · exact this
end
end Go.Av
