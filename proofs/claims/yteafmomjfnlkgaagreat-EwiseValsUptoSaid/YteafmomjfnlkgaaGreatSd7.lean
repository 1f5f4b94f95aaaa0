/- Slices that are made; the operations put together. Conditions: none. -/
import Derived.Test.YteafmomjfnlkgaaGreatSd6
set_option linter.unusedVariables false
namespace Go.Av
theorem flat_get {α : Type} (z : List α) : ∀ (n i : Nat), i < n * z.length → ((List.replicate n z).flatten)[i]? = z[i % z.length]?
  | 0, i, h => by simp at h
  | n + 1, i, h => by
    rw [List.replicate_succ, List.flatten_cons]
    by_cases hi : i < z.length
    · rw [List.getElem?_append_left hi, Nat.mod_eq_of_lt hi]
    · have h' : i - z.length < n * z.length := by rw [Nat.add_mul] at h; omega
      rw [List.getElem?_append_right (by omega), flat_get z n _ h', ← Nat.mod_eq_sub_mod (by omega)]
theorem flat_length {α : Type} (z : List α) (n : Nat) : ((List.replicate n z).flatten).length = n * z.length := by simp
theorem range_cells (z : Array Value) (n : Nat) (i : Nat) (h : i < n * z.size) : ((Array.range (n * z.size)).map (z[· % z.size]!))[i]? = z[i % z.size]? := by
  have h0 : 0 < z.size := Nat.pos_of_ne_zero fun h0 => by rw [h0] at h; simp at h
  have hlt : i % z.size < z.size := Nat.mod_lt _ h0
  rw [Array.getElem?_map, Array.getElem?_range, if_pos h]
  simp [hlt]
theorem afill_length {place : Nat → Option (Nat × Nat)} : ∀ {ps : List (Nat × AV)} {xs ys : List AV}, afill place xs ps = some ys → ys.length = xs.length
  | [], xs, ys, e => by simp only [afill, Option.some.injEq] at e; subst e; rfl
  | (i, x) :: ps, xs, ys, e => by
    simp only [afill, Option.bind_eq_some_iff, Prod.exists] at e
    obtain ⟨off, size, _, e⟩ := e
    split at e
    · rw [afill_length e, putCells_length]
    · cases e
section
variable {P : Program} {w : World} {F : Nat → Prop} {h : Heap} {M : Id → Option Nat}
theorem rep_ok {H : Array Obj} (v : Value) (n m : Nat) (hm : n ≤ m) : ∀ (i : Nat) x, ((List.replicate n (v.cells.toList.map AV.v)).flatten)[i]? = some x → ∃ u, ((Array.range (m * v.cells.size)).map (v.cells[· % v.cells.size]!))[i]? = some u ∧ VC H F x u := by
  intro i x hx
  have hlt := (List.getElem?_eq_some_iff.1 hx).1
  rw [flat_length] at hlt
  rw [flat_get _ _ _ hlt] at hx
  have hl : (v.cells.toList.map AV.v).length = v.cells.size := by simp
  rw [hl] at hlt hx
  have hm' : i < m * v.cells.size := Nat.lt_of_lt_of_le hlt (Nat.mul_le_mul_right _ hm)
  rw [List.getElem?_map, Option.map_eq_some_iff] at hx
  obtain ⟨u, hu, rfl⟩ := hx
  exact ⟨u, by rw [range_cells _ _ _ hm']; simpa using hu, .v⟩
theorem yld_alloc {s : Sem Value} {o : Obj} {u : Value} {t : AV} (hr : s.run P w = .ok u (w.alloc o)) (ht : TR (w.alloc o).heap (VC (w.alloc o).heap F) (VR (w.alloc o).heap F h M) t u [w.heap.size]) : Yld P w F h M s t :=
  ⟨u, w.alloc o, [w.heap.size], hr, grown_alloc w o, ht, by simp, fun b hb => by simp at hb; subst hb; simp⟩
theorem alloc_get (w : World) (o : Obj) : (w.alloc o).heap[w.heap.size]? = some o := heap_alloc_new w o
theorem alloc_ok (hk : HOK w.heap F h M) {t : TypeId} {z : List AV} (hz : tzero P t = some z) : Yld P w F h M (Instr.alloc t true (.tuple #[])) (.newbx z) := by
  obtain ⟨i, v, hi, hv, rfl⟩ := tzero_ok hz
  refine yld_alloc (o := .cells v.cells t) (u := .pointer (some ⟨w.heap.size, 0, none⟩)) ?_ (.newbx (us := v.cells.toList) (e := t) (alloc_get w _) ?_)
  · simp [Instr.alloc, run_zero hi hv, newVar, newRow]
  · exact TRL.of_all (by simp) fun i x u a b => by
      rw [List.getElem?_map, b] at a
      simp at a
      subst a
      exact .c .v
theorem box_ok (hk : HOK w.heap F h M) {t : TypeId} {x : AV} {u : Value} (hv : VR w.heap F h M x u) (h1 : x.cells.all AV.one = true) : Yld P w F h M (Instr.box t u) (.newbx x.cells) := by
  obtain ⟨hl, hx⟩ := cells_ok hv h1
  refine yld_alloc (o := .cells u.cells t) (u := .pointer (some ⟨w.heap.size, 0, none⟩)) ?_ (.newbx (us := u.cells.toList) (e := t) (alloc_get w _) ?_)
  · simp [Instr.box, newVar, newRow]
  · exact TRL.of_all (by simpa using hl) fun i x u a b => (hx i x u a (by simpa using b)).grown hk (grown_alloc w _)
theorem isC_vc {H : Array Obj} {x : AV} {u : Value} (hv : VR H F h M x u) (hc : x.isC = true) : VC H F x u := by
  cases x with
  | v y => obtain rfl := hv.v_inv; exact .v
  | arr n xs => exact hv.arr_inv
  | ref xs off => exact hv.ref_inv
  | _ => cases hc
theorem abuildSlice_ok (hk : HOK w.heap F h M) {t : TypeId} {n : Nat} {ps : List (Nat × AV)} {qs : List (Nat × Value)} {y : AV} (hp : PartsR (VR w.heap F h M) ps qs) (e : abuildSlice P t n ps = some y) :
    Yld P w F h M (Instr.buildSlice t n ⟨qs⟩) y := by
  unfold abuildSlice at e
  simp only [Option.bind_eq_some_iff] at e
  obtain ⟨tv, htv, e⟩ := e
  split at e
  · rename_i et sz by_
    obtain ⟨hu, inf, hinf, rfl, _⟩ := tview_slice htv
    simp only [Option.bind_eq_some_iff] at e
    obtain ⟨z, hz, e⟩ := e
    split at e
    · rename_i hc
      obtain ⟨c1, c2, c3⟩ := hc
      simp only [Option.bind_eq_some_iff, Option.some.injEq] at e
      obtain ⟨xs, e1, rfl⟩ := e
      obtain ⟨i, v, hi, hv, rfl⟩ := tzero_ok hz
      rw [hinf] at hi; injection hi with hi; subst hi
      have hvs : v.cells.size = inf.size := by simpa using c2
      have hini : Cells (VR w.heap F h M) ((List.replicate n (v.cells.toList.map AV.v)).flatten) ((Array.range (n * inf.size)).map (v.cells[· % v.cells.size]!)) := by
        rw [← hvs]
        refine ⟨by simp, fun i x u a b => ?_⟩
        obtain ⟨u', q1, q2⟩ := rep_ok (F := F) (H := w.heap) v n n (Nat.le_refl _) i x a
        rw [q1] at b; injection b with b; subst b
        exact .c q2
      obtain ⟨ds, h1, h2⟩ := afill_ok (place' := fun i => some (i * inf.size, inf.size)) (fun j x hx => hx) hp hini e1
      have hrun : (Instr.buildSlice t n ⟨qs⟩).run P w = .ok (.slice (some ⟨w.heap.size, 0, none⟩) n n) (w.alloc (.cells ds et)) := by
        have hs : P.cellsOf et = inf.size := by simp [Program.cellsOf, hinf]
        have hlim : ¬ (n * inf.size > 2 ^ 24) := by omega
        simp only [Instr.buildSlice, Sem.run_bind, run_underlying hu, Result.andThen_ok, run_sizeOf w hinf, hs, if_neg hlim]
        by_cases h0 : n * inf.size = 0
        · have hn : n = 0 := (Nat.mul_eq_zero.1 h0).resolve_right (by omega)
          subst hn
          simp only [Nat.zero_mul, Array.range_zero', Array.map_empty, if_true] at h1 ⊢
          have : ((Array.range 0).map fun x => (#[] : Array Value)[x % (#[] : Array Value).size]!) = #[] := by simp
          simp [h1, newRow]
        · simp only [if_neg h0, Sem.run_bind, run_zero hinf hv, Result.andThen_ok, Sem.run_pure]
          simp [h1, newRow]
      have hg := grown_alloc w (.cells ds et)
      have hlen : xs.length = n * inf.size := by rw [afill_length e1]; simp [hvs]
      by_cases hcl : xs.all AV.isC = true
      · rw [if_pos hcl]
        refine yld_alloc hrun (.fresh (alloc_get w _) (Nat.le_refl _) (by rw [← hlen, h2.1]; exact Nat.le_refl _) hlen fun i x hx => ?_)
        obtain ⟨u, q1⟩ : ∃ u, ds[i]? = some u := ⟨_, Array.getElem?_eq_getElem (by have := h2.1; have := (List.getElem?_eq_some_iff.1 hx).1; omega)⟩
        exact ⟨u, q1, (isC_vc (h2.2 i x u hx q1) (List.all_eq_true.1 hcl x (List.mem_of_getElem? hx))).grown hk hg⟩
      · rw [if_neg hcl]
        refine yld_alloc hrun (.open_ (alloc_get w _) (Nat.le_refl _) (by rw [← hlen, h2.1]; exact Nat.le_refl _) hlen fun i x hx => ?_)
        obtain ⟨u, q1⟩ : ∃ u, ds[i]? = some u := ⟨_, Array.getElem?_eq_getElem (by have := h2.1; have := (List.getElem?_eq_some_iff.1 hx).1; omega)⟩
        exact ⟨u, q1, (h2.2 i x u hx q1).grown hk hg⟩
    · cases e
  · cases e
theorem makeSlice_ok (hk : HOK w.heap F h M) {t e : TypeId} {sz by_ : Nat} (htv : tview P t = some (.slice e sz by_)) {z : List AV} (hz : tzero P e = some z) {n c : Int} {k k' : IntKind}
    (h0 : 0 ≤ n) (hnc : n ≤ c) (hc : c ≤ 2 ^ 47) (hb : c * by_ ≤ 2 ^ 47) (hl : z.length = sz) :
    Yld P w F h M (Instr.makeSlice t (.int k n) (.int k' c)) (.fresh sz n.toNat (List.replicate n.toNat z).flatten) := by
  obtain ⟨hu, inf, hinf, rfl, rfl⟩ := tview_slice htv
  obtain ⟨i, v, hi, hv, rfl⟩ := tzero_ok hz
  rw [hinf] at hi; injection hi with hi; subst hi
  have hvs : v.cells.size = inf.size := by simpa using hl
  have hr := run_make (P := P) w t e inf v hu hinf hv k k' n c h0 hnc (by rw [Int.mul_comm]; omega) (by omega)
  refine yld_alloc hr (.fresh (alloc_get w _) (by omega) (by rw [size_madeCells]; exact Nat.le_refl _) (by simp [hvs]) fun i x hx => ?_)
  obtain ⟨u, q1, q2⟩ := rep_ok (F := F) (H := (w.alloc (.cells (madeCells v.cells (c.toNat * inf.size)) e)).heap) v n.toNat c.toNat (by omega) i x hx
  exact ⟨u, by unfold madeCells; rw [← hvs]; exact q1, q2⟩
def OptR (R : AV → Value → Prop) : Option AV → Option Value → Prop
  | none, none => True
  | some x, some u => R x u
  | _, _ => False
theorem sliceLim_ok {H : Array Obj} {x : Option AV} {u : Option Value} {d n : Nat} (hv : OptR (VR H F h M) x u) (e : sliceLim x d = some n) :
    (x = none ∧ u = none ∧ n = d) ∨ ∃ k i, u = some (.int k i) ∧ 0 ≤ i ∧ n = i.toNat := by
  unfold sliceLim at e
  split at e
  · cases u with
    | none => injection e with e; exact .inl ⟨rfl, rfl, e.symm⟩
    | some u => exact hv.elim
  · cases u with
    | none => exact hv.elim
    | some u =>
      obtain rfl := VR.v_inv hv
      split at e
      · injection e with e; exact .inr ⟨_, _, rfl, by assumption, e.symm⟩
      · cases e
  · cases e
theorem run_sliceBound {k : IntKind} {i : Int} {y : Nat} {code : BoundsCode} (h0 : 0 ≤ i) (h1 : i ≤ y) : (Instr.sliceBound (.int k i) y code).run P w = .ok i.toNat w := by
  simp [Instr.sliceBound, asIntOf, h0, h1]
theorem run_bounds {H : Array Obj} {lo hi : Option AV} {lo' hi' : Option Value} {l r len cap : Nat}
    (hl : OptR (VR H F h M) lo lo') (hr : OptR (VR H F h M) hi hi')
    (e1 : sliceLim lo 0 = some l) (e2 : sliceLim hi len = some r) (hlr : l ≤ r) (hrc : r ≤ cap) : (Instr.sliceBounds true len cap lo' hi' none).run P w = .ok (l, r, cap) w := by
  have s1 := sliceLim_ok hl e1
  have s2 := sliceLim_ok hr e2
  rcases s2 with ⟨_, h2n, rfl⟩ | ⟨k2, i2, h2n, h2, rfl⟩ <;> rcases s1 with ⟨_, h1n, rfl⟩ | ⟨k1, i1, h1n, h1, rfl⟩ <;> rw [h1n, h2n]
  · simp [Instr.sliceBounds]
  · simp [Instr.sliceBounds, run_sliceBound h1 (show i1 ≤ ((r : Nat) : Int) by omega)]
  · simp [Instr.sliceBounds, run_sliceBound h2 (show i2 ≤ (cap : Int) by omega)]
  · simp only [Instr.sliceBounds, Sem.run_bind, Sem.run_pure, Result.andThen_ok, run_sliceBound h2 (show i2 ≤ (cap : Int) by omega), run_sliceBound h1 (show i1 ≤ (i2.toNat : Int) by omega), if_true, Option.isSome_none, Bool.false_eq_true, if_false]
theorem aslice_ok (hk : HOK w.heap F h M) {t : TypeId} {x y : AV} {u : Value} {lo hi : Option AV} {lo' hi' : Option Value} (hv : VR w.heap F h M x u)
    (hl : OptR (VR w.heap F h M) lo lo') (hr : OptR (VR w.heap F h M) hi hi')
    (e : aslice P t h.get x lo hi = some y) : ∃ v, (Instr.sliceAt t u lo' hi' none).run P w = .ok v w ∧ VR w.heap F h M y v := by
  unfold aslice at e
  simp only [Option.bind_eq_some_iff] at e
  obtain ⟨tv, htv, e⟩ := e
  split at e
  · rename_i et sz by_ n xs
    obtain ⟨hu, inf, hinf, rfl, _⟩ := tview_slice htv
    simp only [Option.bind_eq_some_iff] at e
    obtain ⟨l, e1, r, e2, e⟩ := e
    split at e
    · rename_i hc
      injection e with e; subst e
      have hs : P.cellsOf et = inf.size := by simp [Program.cellsOf, hinf]
      have run : ∀ a c, n ≤ c → (Instr.sliceAt t (.slice a n c) lo' hi' none).run P w = .ok (.slice (if c = l then a else a.map (·.add (l * inf.size))) (r - l) (c - l)) w := fun a c hnc => by
        simp only [Instr.sliceAt, Sem.run_bind, run_underlying hu, Result.andThen_ok, Instr.slice, run_bounds hl hr e1 e2 hc.1 (Nat.le_trans hc.2 hnc), run_sizeOf w hinf, hs]
        rfl
      have hvc := hv.arr_inv
      cases hvc with
      | @arr0 a c =>
        have : l = 0 := by omega
        subst this
        have : r = 0 := by omega
        subst this
        refine ⟨_, run a c (Nat.zero_le _), ?_⟩
        rw [if_pos (by simp)]
        exact .c .arr0
      | @arr _ _ b o c us hcap hF hR hlen hx =>
        refine ⟨_, run _ c hcap, ?_⟩
        by_cases hcl : c = l
        · subst hcl
          have : r - c = 0 := by omega
          rw [this]
          rw [if_pos rfl]
          by_cases hcc : c = 0 ∧ r = n
          · rw [if_pos hcc]
            obtain ⟨rfl, rfl⟩ := hcc
            have : r = 0 := by omega
            subst this
            exact .c (.arr (Nat.zero_le _) hF hR hlen hx)
          · rw [if_neg hcc]
            simp only [Nat.zero_mul, List.take_zero]
            exact .c .arr0
        · rw [if_neg hcl]
          simp only [Option.map_some]
          rw [addr_add]
          by_cases hcc : l = 0 ∧ r = n
          · rw [if_pos hcc]
            obtain ⟨rfl, rfl⟩ := hcc
            simp only [Nat.sub_zero, Nat.zero_mul, Nat.add_zero]
            exact .c (.arr hcap hF hR hlen hx)
          · rw [if_neg hcc]
            obtain ⟨cur, et', fz, q1, q2⟩ := hR
            have hal : ∀ (i : Nat) x, xs[i]? = some x → ∃ u, (cur.extract o cur.size)[i]? = some u ∧ VC w.heap F x u := fun i x hxi => by
              obtain ⟨u, a1, a2⟩ := all2_get hlen hx hxi
              have a3 := q2 i u a1
              have := (Array.getElem?_eq_some_iff.1 a3).1
              refine ⟨u, ?_, a2⟩
              rw [Array.getElem?_extract]
              rw [if_pos (by omega)]
              exact a3
            refine .c (.arr (us := ((us.drop (l * inf.size)).take ((r - l) * inf.size))) (by omega) hF ⟨cur, et', fz, q1, fun i u hi => ?_⟩ (by simp; omega) fun i x u a b => ?_)
            · rw [List.getElem?_take] at hi
              split at hi
              · rw [List.getElem?_drop] at hi
                have := q2 _ _ hi
                rwa [← Nat.add_assoc] at this
              · cases hi
            · rw [List.getElem?_take] at a b
              by_cases hlt : i < (r - l) * inf.size
              · rw [if_pos hlt, List.getElem?_drop] at a b
                exact hx _ _ _ a b
              · rw [if_neg hlt] at a; cases a
    · cases e
  · rename_i et sz by_ id off n ext
    obtain ⟨hu, inf, hinf, rfl, _⟩ := tview_slice htv
    simp only [Option.bind_eq_some_iff] at e
    obtain ⟨blk, hg, e⟩ := e
    split at e
    · rename_i cl rw' sz' ext' cells
      simp only [Option.bind_eq_some_iff] at e
      obtain ⟨l, e1, r, e2, e⟩ := e
      split at e
      · rename_i hc
        obtain ⟨rfl, rfl, c1, c2, c3⟩ := hc
        injection e with e; subst e
        have hs : P.cellsOf et = inf.size := by simp [Program.cellsOf, hinf]
        obtain ⟨a, c, cl2, rw2, sz2, e2', cells2, rfl, hg', hn, hle, ho⟩ := hv.own_inv
        rw [hg] at hg'
        injection hg' with hg'
        injection hg' with _ _ q1 q2 q3
        subst q1; subst q2; subst q3
        have hown := ho rfl
        obtain ⟨hx, hown⟩ := ho rfl
        have hrc : r ≤ c := Nat.le_of_mul_le_mul_right (by omega) c3
        refine ⟨.slice (if c = l then a else a.map (·.add (l * inf.size))) (r - l) (c - l), ?_, ?_⟩
        · simp only [Instr.sliceAt, Sem.run_bind, run_underlying hu, Result.andThen_ok, Instr.slice, run_bounds hl hr e1 e2 c1 hrc, run_sizeOf w hinf, hs]
          rfl
        · refine .own hg (by omega) (Nat.le_refl _) fun _ => ⟨?_, ?_⟩
          · have h1 : l * inf.size + (c - l) * inf.size = c * inf.size := by rw [← Nat.add_mul]; congr 1; omega
            omega
          · by_cases hcl : c = l
            · exact .inl ⟨by omega, by omega⟩
            · rcases hown with ⟨_, h0⟩ | ⟨b, S, h1, rfl, h3, h4⟩
              · omega
              · refine .inr ⟨b, S, h1, ?_, h3, ?_⟩
                · rw [if_neg hcl]; simp only [Option.map_some]; rw [addr_add]
                · have h1 : l * inf.size + (c - l) * inf.size = c * inf.size := by rw [← Nat.add_mul]; congr 1; omega
                  omega
      · cases e
    · cases e
  · rename_i et sz by_
    obtain ⟨hu, inf, hinf, rfl, _⟩ := tview_slice htv
    simp only [Option.bind_eq_some_iff] at e
    obtain ⟨l, e1, r, e2, e⟩ := e
    split at e
    · rename_i hc
      obtain ⟨rfl, rfl⟩ := hc
      injection e with e; subst e
      have hs : P.cellsOf et = inf.size := by simp [Program.cellsOf, hinf]
      obtain rfl := hv.v_inv
      refine ⟨.slice none 0 0, ?_, .c .v⟩
      simp only [Instr.sliceAt, Sem.run_bind, run_underlying hu, Result.andThen_ok, Instr.slice, run_bounds hl hr e1 e2 (Nat.le_refl 0) (Nat.le_refl 0), run_sizeOf w hinf, hs]
      rfl
    · cases e
  · cases e
end
end Go.Av
