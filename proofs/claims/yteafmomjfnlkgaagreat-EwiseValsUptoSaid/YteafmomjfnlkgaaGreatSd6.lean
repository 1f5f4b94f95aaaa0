/- Operations that build values and rows. Conditions: none. -/
import Derived.Test.YteafmomjfnlkgaaGreatSd5
set_option linter.unusedVariables false
namespace Go.Av
theorem putCells_length : ∀ (ys cells : List AV) (off : Nat), (putCells cells off ys).length = cells.length
  | [], cells, off => rfl
  | y :: ys, cells, off => by unfold putCells; rw [putCells_length ys]; simp
theorem putCells_get : ∀ (ys cells : List AV) (off i : Nat), off + ys.length ≤ cells.length → (putCells cells off ys)[i]? = if off ≤ i ∧ i < off + ys.length then ys[i - off]? else cells[i]?
  | [], cells, off, i, h => by
    unfold putCells
    rw [if_neg]
    intro hc; simp at hc; omega
  | y :: ys, cells, off, i, h => by
    simp only [List.length_cons] at h
    unfold putCells
    rw [putCells_get ys (cells.set off y) (off + 1) i (by simp; omega)]
    by_cases h1 : i = off
    · subst h1
      rw [if_neg (by omega), if_pos (by simp), List.getElem?_set]
      simp
      omega
    · rw [List.getElem?_set_ne (by omega)]
      by_cases h2 : off + 1 ≤ i ∧ i < off + 1 + ys.length
      · rw [if_pos h2, if_pos (by simp; omega)]
        rw [show i - off = (i - (off + 1)) + 1 by omega]
        simp
      · rw [if_neg h2, if_neg (by simp; omega)]
theorem foldSet_list (off : Nat) : ∀ (l : List Value) (k : Nat) (cs : Array Value), ((l.zipIdx k).foldl (fun cs (c, j) => cs.setIfInBounds (off + j) c) cs).size = cs.size ∧
    ∀ i, off + k + l.length ≤ cs.size → ((l.zipIdx k).foldl (fun cs (c, j) => cs.setIfInBounds (off + j) c) cs)[i]? = if off + k ≤ i ∧ i < off + k + l.length then l[i - (off + k)]? else cs[i]?
  | [], k, cs => ⟨rfl, fun i h => by rw [if_neg]; rfl; intro hc; simp at hc; omega⟩
  | v :: l, k, cs => by
    simp only [List.zipIdx_cons, List.foldl_cons]
    obtain ⟨h1, h2⟩ := foldSet_list off l (k + 1) (cs.setIfInBounds (off + k) v)
    refine ⟨by rw [h1]; simp, fun i h => ?_⟩
    simp only [List.length_cons] at h
    have hs : (cs.setIfInBounds (off + k) v).size = cs.size := by simp
    rw [h2 i (by rw [hs]; omega)]
    by_cases e1 : i = off + k
    · subst e1
      rw [if_neg (by omega), if_pos (by simp)]
      rw [Array.getElem?_setIfInBounds_self_of_lt (by omega)]
      simp
    · rw [Array.getElem?_setIfInBounds_ne (by omega)]
      by_cases e2 : off + (k + 1) ≤ i ∧ i < off + (k + 1) + l.length
      · rw [if_pos e2, if_pos (by simp; omega)]
        rw [show i - (off + k) = (i - (off + (k + 1))) + 1 by omega]
        simp
      · rw [if_neg e2, if_neg (by simp; omega)]
theorem foldSet (off : Nat) (vs cs : Array Value) : (vs.zipIdx.foldl (fun cs (c, j) => cs.setIfInBounds (off + j) c) cs).size = cs.size ∧
    ∀ i, off + vs.size ≤ cs.size → (vs.zipIdx.foldl (fun cs (c, j) => cs.setIfInBounds (off + j) c) cs)[i]? = if off ≤ i ∧ i < off + vs.size then vs[i - off]? else cs[i]? := by
  have := foldSet_list off vs.toList 0 cs
  rw [← Array.foldl_toList, Array.toList_zipIdx]
  simpa using this
section
variable {P : Program} {w : World} {F : Nat → Prop} {h : Heap} {M : Id → Option Nat}
theorem cells_ok {H : Array Obj} {x : AV} {u : Value} (hv : VR H F h M x u) (h1 : x.cells.all AV.one = true) :
    x.cells.length = u.cells.size ∧ (∀ (i : Nat) y v, x.cells[i]? = some y → u.cells[i]? = some v → VR H F h M y v) := by
  cases x with
  | agg xs =>
    obtain ⟨us, rfl, hl, hx⟩ := hv.agg_inv
    exact ⟨by simpa [AV.cells, Value.cells] using hl, fun i y v a b => hx i y v a (by simpa [Value.cells] using b)⟩
  | v y =>
    obtain rfl := hv.v_inv
    have : u.cells = #[u] := by cases u <;> first | rfl | (simp [AV.cells, AV.one] at h1)
    rw [this]
    refine ⟨rfl, fun i y v a b => ?_⟩
    cases i with
    | zero => simp [AV.cells] at a b; subst a; subst b; exact hv
    | succ i => simp [AV.cells] at a
  | tuple xs => simp [AV.cells, AV.one] at h1
  | fresh => simp [AV.cells, AV.one] at h1
  | freshO => simp [AV.cells, AV.one] at h1
  | newbx => simp [AV.cells, AV.one] at h1
  | arr n xs =>
    have : u.cells = #[u] := by cases hv.arr_inv <;> rfl
    rw [this]
    refine ⟨rfl, fun i y v a b => ?_⟩
    cases i with
    | zero => simp [AV.cells] at a b; subst a; subst b; exact hv
    | succ i => simp [AV.cells] at a
  | ref xs off =>
    have : u.cells = #[u] := by cases hv.ref_inv; rfl
    rw [this]
    refine ⟨rfl, fun i y v a b => ?_⟩
    cases i with
    | zero => simp [AV.cells] at a b; subst a; subst b; exact hv
    | succ i => simp [AV.cells] at a
  | own id off n ext =>
    obtain ⟨a, c, _, _, _, _, _, rfl, _⟩ := hv.own_inv
    refine ⟨rfl, fun i y v a b => ?_⟩
    cases i with
    | zero => simp [AV.cells, Value.cells] at a b; subst a; subst b; exact hv
    | succ i => simp [AV.cells] at a
  | fn f a b =>
    obtain ⟨us, vs, rfl, _⟩ := hv.fn_inv
    refine ⟨rfl, fun i y v a b => ?_⟩
    cases i with
    | zero => simp [AV.cells, Value.cells] at a b; subst a; subst b; exact hv
    | succ i => simp [AV.cells] at a
  | ptr id off ext =>
    obtain ⟨a, rfl⟩ := hv.ptr_form
    refine ⟨rfl, fun i y v a b => ?_⟩
    cases i with
    | zero => simp [AV.cells, Value.cells] at a b; subst a; subst b; exact hv
    | succ i => simp [AV.cells] at a
theorem oneCell_of {H : Array Obj} {x : AV} {u : Value} (hv : VR H F h M x u) (h1 : x.one = true) : u.oneCell' = true := by
  cases x with
  | agg xs => cases h1
  | v y => obtain rfl := hv.v_inv; cases u <;> first | rfl | cases h1
  | tuple xs => cases h1
  | fresh => cases h1
  | freshO => cases h1
  | newbx => cases h1
  | arr n xs => cases hv.arr_inv <;> rfl
  | ref xs off => cases hv.ref_inv; rfl
  | own id off n ext => obtain ⟨a, c, _, _, _, _, _, rfl, _⟩ := hv.own_inv; rfl
  | fn f a b => obtain ⟨us, vs, rfl, _⟩ := hv.fn_inv; rfl
  | ptr id off ext => obtain ⟨a, rfl⟩ := hv.ptr_form; rfl
def Cells (R : AV → Value → Prop) (xs : List AV) (cs : Array Value) : Prop := xs.length = cs.size ∧ ∀ (i : Nat) x u, xs[i]? = some x → cs[i]? = some u → R x u
theorem Cells.put {R : AV → Value → Prop} {xs ys : List AV} {cs vs : Array Value} (hc : Cells R xs cs) (hl : ys.length = vs.size) (hy : ∀ (i : Nat) y v, ys[i]? = some y → vs[i]? = some v → R y v) {off : Nat}
    (hb : off + ys.length ≤ xs.length) : Cells R (putCells xs off ys) (vs.zipIdx.foldl (fun cs (c, j) => cs.setIfInBounds (off + j) c) cs) := by
  obtain ⟨h1, h2⟩ := foldSet off vs cs
  refine ⟨by rw [putCells_length, h1]; exact hc.1, fun i x u a b => ?_⟩
  rw [putCells_get _ _ _ _ hb] at a
  rw [h2 i (by have := hc.1; omega)] at b
  by_cases e : off ≤ i ∧ i < off + ys.length
  · rw [if_pos e] at a
    rw [if_pos (by omega)] at b
    exact hy _ _ _ a b
  · rw [if_neg e] at a
    rw [if_neg (by omega)] at b
    exact hc.2 _ _ _ a b
def PartsR (R : AV → Value → Prop) (ps : List (Nat × AV)) (qs : List (Nat × Value)) : Prop :=
  ps.length = qs.length ∧ ∀ (i : Nat) p q, ps[i]? = some p → qs[i]? = some q → p.1 = q.1 ∧ R p.2 q.2
theorem afill_ok {H : Array Obj} {place : Nat → Option (Nat × Nat)} {place' : Nat → Option (Nat × Nat)} (hpl : ∀ i x, place i = some x → place' i = some x) :
    ∀ {ps : List (Nat × AV)} {qs : List (Nat × Value)} {xs ys : List AV} {cs : Array Value}, PartsR (VR H F h M) ps qs → Cells (VR H F h M) xs cs → afill place xs ps = some ys →
      ∃ ds, Instr.fill place' cs qs = some ds ∧ Cells (VR H F h M) ys ds
  | [], qs, xs, ys, cs, hp, hc, e => by
    obtain rfl : qs = [] := List.eq_nil_of_length_eq_zero hp.1.symm
    simp only [afill, Option.some.injEq] at e
    subst e
    exact ⟨cs, rfl, hc⟩
  | (i, x) :: ps, [], xs, ys, cs, hp, hc, e => by have := hp.1; simp at this
  | (i, x) :: ps, (j, u) :: qs, xs, ys, cs, hp, hc, e => by
    obtain ⟨hij, hv⟩ := hp.2 0 _ _ rfl rfl
    dsimp only at hij hv
    subst hij
    simp only [afill, Option.bind_eq_some_iff, Prod.exists] at e
    obtain ⟨off, size, hpos, e⟩ := e
    split at e
    · rename_i hcond
      obtain ⟨c1, c2, c3⟩ := hcond
      obtain ⟨hl, hy⟩ := cells_ok hv c3
      have hc' := hc.put (off := off) hl hy (by omega)
      obtain ⟨ds, h1, h2⟩ := afill_ok hpl (ps := ps) (qs := qs) ⟨by have := hp.1; simpa using this, fun i p q a b => hp.2 (i + 1) p q (by simpa using a) (by simpa using b)⟩ hc' e
      refine ⟨ds, ?_, h2⟩
      have hsz := hc.1
      simp only [Instr.fill, hpl _ _ hpos]
      rw [if_neg]
      · exact h1
      · simp only [ne_eq, Bool.or_eq_true, decide_eq_true_eq]
        omega
    · cases e
theorem tzero_ok {t : TypeId} {z : List AV} (hz : tzero P t = some z) : ∃ i v, P.info? t = some i ∧ i.zero = some v ∧ z = v.cells.toList.map .v := by
  unfold tzero at hz
  rw [Option.map_eq_some_iff] at hz
  obtain ⟨v, hv, rfl⟩ := hz
  rw [Option.bind_eq_some_iff] at hv
  obtain ⟨i, h1, h2⟩ := hv
  exact ⟨i, v, h1, h2, rfl⟩
theorem run_zero {t : TypeId} {i : TypeInfo} {v : Value} (h1 : P.info? t = some i) (h2 : i.zero = some v) : (zeroValue t).run P w = .ok v w := by
  simp [zeroValue, run_typeInfo w h1, h2]
theorem zcells_ok {H : Array Obj} (v : Value) : Cells (VR H F h M) (v.cells.toList.map .v) v.cells := by
  refine ⟨by simp, fun i x u a b => ?_⟩
  rw [List.getElem?_map, Array.getElem?_toList, b] at a
  simp at a
  subst a
  exact .c .v
theorem run_mapM_places (fs : List Field) (hi : ∀ f ∈ fs, ∃ i, P.info? f.type = some i) : ((fs.mapM fun f => do pure (f.offset, ← sizeOf f.type) : Sem (List (Nat × Nat)))).run P w = .ok (fs.map fun f => (f.offset, P.cellsOf f.type)) w := by
  induction fs with
  | nil => simp
  | cons f fs ih =>
    obtain ⟨i, hf⟩ := hi f (by simp)
    have h1 := ih fun g hg => hi g (by simp [hg])
    simp only [List.mapM_cons, Sem.run_bind, run_sizeOf w hf, Result.andThen_ok, Sem.run_pure, List.map_cons]
    rw [h1]
    rfl
theorem abuild_ok {t : TypeId} {ps : List (Nat × AV)} {qs : List (Nat × Value)} {y : AV} (hp : PartsR (VR w.heap F h M) ps qs) (e : abuild P t ps = some y) :
    ∃ u, (Instr.build t ⟨qs⟩).run P w = .ok u w ∧ VR w.heap F h M y u := by
  unfold abuild at e
  simp only [Option.bind_eq_some_iff] at e
  obtain ⟨z, hz, tv, htv, e⟩ := e
  obtain ⟨i, v, hi, hv, rfl⟩ := tzero_ok hz
  split at e
  · obtain ⟨fs, hu, hfs⟩ := tview_struct htv
    simp only [Option.bind_eq_some_iff, Option.some.injEq] at e
    obtain ⟨xs, e1, rfl⟩ := e
    obtain ⟨ds, h1, h2⟩ := afill_ok (place' := ((fs.toList.map fun f => (f.offset, P.cellsOf f.type))[·]?)) (fun j x hx => by
      rw [Option.map_eq_some_iff] at hx
      obtain ⟨⟨o, ft⟩, h1, rfl⟩ := hx
      obtain ⟨fs', f, hu', hf, rfl, rfl⟩ := fieldOf_some h1
      rw [hu] at hu'
      injection hu' with hu'
      injection hu' with hu'
      subst hu'
      rw [List.getElem?_map, Array.getElem?_toList, hf]
      rfl) hp (zcells_ok v) e1
    refine ⟨.agg ds, ?_, .agg (us := ds.toList) (by simpa using h2.1) fun i x u a b => h2.2 i x u a (by simpa using b)⟩
    have hm := run_mapM_places (P := P) (w := w) fs.toList fun f hf => hfs f (by simpa using hf)
    have hm' : ((fs.mapM fun f => do pure (f.offset, ← sizeOf f.type) : Sem (Array (Nat × Nat)))).run P w = .ok (fs.toList.map fun f => (f.offset, P.cellsOf f.type)).toArray w := by
      rw [Array.mapM_eq_mapM_toList]
      simp only [← bind_pure_comp, Sem.run_bind, hm, Result.andThen_ok, Sem.run_pure]
    simp only [Instr.build, Sem.run_bind, run_zero hi hv, Result.andThen_ok, run_underlying hu, hm', List.getElem?_toArray]
    simp only [h1]
    rfl
  · rename_i n et sz
    obtain ⟨hu, inf, hinf, rfl⟩ := tview_array htv
    simp only [Option.bind_eq_some_iff, Option.some.injEq] at e
    obtain ⟨xs, e1, rfl⟩ := e
    obtain ⟨ds, h1, h2⟩ := afill_ok (place' := fun i => some (i * inf.size, inf.size)) (fun j x hx => hx) hp (zcells_ok v) e1
    refine ⟨.agg ds, ?_, .agg (us := ds.toList) (by simpa using h2.1) fun i x u a b => h2.2 i x u a (by simpa using b)⟩
    have hs : P.cellsOf et = inf.size := by simp [Program.cellsOf, hinf]
    simp only [Instr.build, Sem.run_bind, run_zero hi hv, Result.andThen_ok, run_underlying hu, run_sizeOf w hinf, hs]
    simp only [h1]
    rfl
  · cases e
end
end Go.Av
