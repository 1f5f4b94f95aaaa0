/- Each operation that turns no row does in the model what it does in the interpreter. Conditions: none. -/
import Derived.Test.YteafmomjfnlkgaaGreatSd4
set_option linter.unusedVariables false
namespace Go.Av
theorem addr_add (b o k : Nat) : (⟨b, o, none⟩ : Addr).add k = ⟨b, o + k, none⟩ := by
  unfold Addr.add; split <;> simp_all
theorem cell_of {w : World} {b o : Nat} {cur : Array Value} {e : TypeId} {fz : Nat × Nat} (hb : w.heap[b]? = some (.cells cur e fz)) : w.cell? ⟨b, o, none⟩ = cur[o]? := by
  simp [World.cell?, hb]
section
variable {P : Program} {w : World}
def aggD : TypeDesc → Bool
  | .struct _ => true
  | .array _ _ => true
  | _ => false
theorem run_isAgg {t : TypeId} {d : TypeDesc} (h : P.underlying t = some d) : (isAgg t).run P w = .ok (aggD d) w := by
  simp only [isAgg, Sem.run_bind, run_underlying h, Result.andThen_ok]
  cases d <;> rfl
theorem tview_some {t : TypeId} {tv : TV} (h : tview P t = some tv) : ∃ d, P.underlying t = some d := by
  unfold tview at h
  cases hu : P.underlying t with
  | none => rw [hu] at h; cases h
  | some d => exact ⟨d, rfl⟩
theorem tview_slice {t e : TypeId} {sz by_ : Nat} (h : tview P t = some (.slice e sz by_)) : P.underlying t = some (.slice e) ∧ ∃ i, P.info? e = some i ∧ i.size = sz ∧ i.bytes = by_ := by
  obtain ⟨d, hd⟩ := tview_some h
  unfold tview at h
  rw [hd] at h
  cases d <;> first | (simp at h; done) | skip
  rename_i e'
  simp only [Option.map_eq_some_iff] at h
  obtain ⟨i, hi, h⟩ := h
  injection h with h1 h2 h3
  subst h1
  exact ⟨hd, i, hi, h2, h3⟩
theorem tview_array {t e : TypeId} {n sz : Nat} (h : tview P t = some (.array n e sz)) : P.underlying t = some (.array n e) ∧ ∃ i, P.info? e = some i ∧ i.size = sz := by
  obtain ⟨d, hd⟩ := tview_some h
  unfold tview at h
  rw [hd] at h
  cases d <;> first | (simp at h; done) | skip
  rename_i n' e'
  simp only [Option.map_eq_some_iff] at h
  obtain ⟨i, hi, h⟩ := h
  injection h with h1 h2 h3
  subst h1; subst h2
  exact ⟨hd, i, hi, h3⟩
theorem tview_struct {t : TypeId} (h : tview P t = some .struct) : ∃ fs, P.underlying t = some (.struct fs) ∧ ∀ f ∈ fs, ∃ i, P.info? f.type = some i := by
  obtain ⟨d, hd⟩ := tview_some h
  unfold tview at h
  rw [hd] at h
  cases d <;> first | (simp at h; done) | skip
  rename_i fs
  dsimp only at h
  split at h
  · rename_i hc
    exact ⟨fs, hd, fun f hf => Option.isSome_iff_exists.1 (Array.all_eq_true_iff_forall_mem.1 hc f hf)⟩
  · cases h
theorem tview_str {t : TypeId} (h : tview P t = some .str) : P.underlying t = some .string := by
  obtain ⟨d, hd⟩ := tview_some h
  unfold tview at h
  rw [hd] at h
  cases d <;> first | (simp at h; done) | skip
  exact hd
theorem tview_int {t : TypeId} {k : IntKind} (h : tview P t = some (.int k)) : P.underlying t = some (.int k) := by
  obtain ⟨d, hd⟩ := tview_some h
  unfold tview at h
  rw [hd] at h
  cases d <;> first | (simp at h; done) | skip
  simp at h
  subst h
  exact hd
theorem tview_bool {t : TypeId} (h : tview P t = some .bool) : P.underlying t = some .bool := by
  obtain ⟨d, hd⟩ := tview_some h
  unfold tview at h
  rw [hd] at h
  cases d <;> first | (simp at h; done) | skip
  exact hd
def Along (cur : Array Value) (o : Nat) (R : AV → Value → Prop) (xs : List AV) : Prop := ∀ (i : Nat) x, xs[i]? = some x → ∃ u, cur[o + i]? = some u ∧ R x u
theorem Along.piece {cur : Array Value} {o : Nat} {R : AV → Value → Prop} {xs : List AV} (h : Along cur o R xs) (k m : Nat) (hm : k + m ≤ xs.length) :
    ∃ us : List Value, us.length = m ∧ (∀ j u, us[j]? = some u → cur[o + k + j]? = some u) ∧ ((xs.drop k).take m).length = us.length ∧ ∀ (i : Nat) x u, ((xs.drop k).take m)[i]? = some x → us[i]? = some u → R x u := by
  refine ⟨(List.range m).map fun j => cur.getD (o + k + j) undef, by simp, fun j u hu => ?_, by simp; omega, fun i x u hx hu => ?_⟩
  · rw [List.getElem?_map, Option.map_eq_some_iff] at hu
    obtain ⟨j', h1, h2⟩ := hu
    rw [List.getElem?_eq_some_iff] at h1
    obtain ⟨h3, h4⟩ := h1
    simp at h3 h4
    subst h4
    obtain ⟨u', q1, _⟩ := h (k + j) _ (List.getElem?_eq_getElem (by omega))
    rw [← Nat.add_assoc] at q1
    rw [Array.getD_eq_getD_getElem?, q1] at h2
    simp at h2
    rw [q1, h2]
  · rw [List.getElem?_map, Option.map_eq_some_iff] at hu
    obtain ⟨j', h1, h2⟩ := hu
    rw [List.getElem?_eq_some_iff] at h1
    obtain ⟨h3, h4⟩ := h1
    simp at h3 h4
    subst h4
    rw [List.getElem?_take, if_pos h3, List.getElem?_drop] at hx
    obtain ⟨u', q1, q2⟩ := h (k + i) x hx
    rw [← Nat.add_assoc] at q1
    rw [Array.getD_eq_getD_getElem?, q1] at h2
    simp at h2
    exact h2 ▸ q2
def AggOr (R : AV → Value → Prop) (y : AV) (u : Value) : Prop :=
  R y u ∨ ∃ ys us, y = .agg ys ∧ u = .agg ⟨us⟩ ∧ ys.length = us.length ∧ ∀ (i : Nat) x u, ys[i]? = some x → us[i]? = some u → R x u
theorem run_loadVar_part {b o off : Nat} {cur : Array Value} {e : TypeId} {fz : Nat × Nat} (hb : w.heap[b]? = some (.cells cur e fz)) {xs : List AV} {R : AV → Value → Prop} (hx : Along cur o R xs)
    {t : TypeId} {y : AV} (hp : part P xs t off = some y) : ∃ u, (loadVar t ⟨b, o + off, none⟩).run P w = .ok u w ∧ AggOr R y u := by
  unfold part at hp
  rw [Option.bind_eq_some_iff] at hp
  obtain ⟨tv, htv, hp⟩ := hp
  obtain ⟨d, hd⟩ := tview_some htv
  obtain ⟨inf, hinf⟩ := info_of_underlying hd
  have agg : ∀ (hag : aggD d = true), off + tsize P t ≤ xs.length → y = .agg ((xs.drop off).take (tsize P t)) →
      ∃ u, (loadVar t ⟨b, o + off, none⟩).run P w = .ok u w ∧ AggOr R y u := fun hag hle hy => by
    obtain ⟨us, h1, h2, h3, h4⟩ := hx.piece off (tsize P t) hle
    refine ⟨.agg ⟨us⟩, ?_, .inr ⟨_, us, hy, rfl, h3, h4⟩⟩
    have hl := run_loadCells_list (P := P) w ⟨b, o + off, none⟩ us fun j v hv => by rw [addr_add, cell_of hb]; exact h2 j v hv
    rw [h1] at hl
    simp only [loadVar, Sem.run_bind, run_isAgg hd, hag, Result.andThen_ok, if_true, run_sizeOf w hinf]
    have : P.cellsOf t = tsize P t := rfl
    rw [this, hl]
    rfl
  have single : ∀ (hag : aggD d = false), xs[off]? = some y → ∃ u, (loadVar t ⟨b, o + off, none⟩).run P w = .ok u w ∧ AggOr R y u := fun hag hy => by
    obtain ⟨u, h1, h2⟩ := hx off y hy
    refine ⟨u, ?_, .inl h2⟩
    simp only [loadVar, Sem.run_bind, run_isAgg hd, hag, Result.andThen_ok, Bool.false_eq_true, if_false]
    simp only [load, Sem.run, cell_of hb, h1]
  have hd' := htv
  cases tv with
  | struct =>
    obtain ⟨fs, hu, _⟩ := tview_struct htv
    rw [hd] at hu; injection hu with hu; subst hu
    dsimp only at hp
    split at hp
    · exact agg rfl (by assumption) (by injection hp with hp; exact hp.symm)
    · cases hp
  | array n el sz =>
    obtain ⟨hu, _⟩ := tview_array htv
    rw [hd] at hu; injection hu with hu; subst hu
    dsimp only at hp
    split at hp
    · exact agg rfl (by assumption) (by injection hp with hp; exact hp.symm)
    · cases hp
  | slice e sz by_ => obtain ⟨hu, _⟩ := tview_slice htv; rw [hd] at hu; injection hu with hu; subst hu; exact single rfl hp
  | str => have hu := tview_str htv; rw [hd] at hu; injection hu with hu; subst hu; exact single rfl hp
  | int k => have hu := tview_int htv; rw [hd] at hu; injection hu with hu; subst hu; exact single rfl hp
  | bool => have hu := tview_bool htv; rw [hd] at hu; injection hu with hu; subst hu; exact single rfl hp
  | other =>
    refine single ?_ hp
    unfold tview at htv
    rw [hd] at htv
    cases d <;> first | rfl | (simp at htv)
def Yld (P : Program) (w : World) (F : Nat → Prop) (h : Heap) (M : Id → Option Nat) (s : Sem Value) (t : AV) : Prop :=
  ∃ u w' bs, s.run P w = .ok u w' ∧ w.grownBy w' none ∧ TR w'.heap (VC w'.heap F) (VR w'.heap F h M) t u bs ∧ bs.Nodup ∧ ∀ b ∈ bs, w.heap.size ≤ b ∧ b < w'.heap.size
theorem grown_refl (w : World) : w.grownBy w none := ⟨rfl, rfl, rfl, Nat.le_refl _, fun _ _ _ => rfl⟩
theorem grown_alloc (w : World) (o : Obj) : w.grownBy (w.alloc o) none := World.grownBy_alloc w o none
variable {F : Nat → Prop} {h : Heap} {M : Id → Option Nat}
theorem Yld.same {s : Sem Value} {t : AV} {u : Value} (hr : s.run P w = .ok u w) (hv : VR w.heap F h M t u) : Yld P w F h M s t :=
  ⟨u, w, [], hr, grown_refl w, .base hv, List.nodup_nil, fun _ h => by cases h⟩
theorem VR.grown {w w' : World} (hk : HOK w.heap F h M) (hg : w.grownBy w' none) {x : AV} {u : Value} (hv : VR w.heap F h M x u) : VR w'.heap F h M x u := by
  refine hv.keep (fun _ h => h) (fun b hb => hg.block b (hk.fb b hb) (by simp)) fun id x hx => ⟨x, hx, Held.refl rfl fun b hb => ?_⟩
  have hr := hk.row id x hx
  refine rowSize_of (hg.block b ?_ (by simp))
  cases x with
  | sl cl rw sz e cells =>
    rcases hr.2 with ⟨_, h0⟩ | ⟨b', cur, t, h1, h2, _⟩
    · rw [hb] at h0; cases h0
    · rw [hb] at h1; injection h1 with h1; subst h1; exact (Array.getElem?_eq_some_iff.1 h2).1
  | bx rw cells =>
    obtain ⟨b', cur, t, h1, h2, _⟩ := hr
    rw [hb] at h1; injection h1 with h1; subst h1; exact (Array.getElem?_eq_some_iff.1 h2).1
theorem VC.grown {w w' : World} (hk : HOK w.heap F h M) (hg : w.grownBy w' none) {x : AV} {u : Value} (hv : VC w.heap F x u) : VC w'.heap F x u :=
  hv.keep (fun _ h => h) fun b hb => hg.block b (hk.fb b hb) (by simp)
theorem lift_ok {H : Array Obj} (x : Value) : VC H F (lift x) x := by
  unfold lift
  split
  · rename_i cs
    refine .agg (by simp) fun i x u hx hu => ?_
    rw [List.getElem?_map, hu] at hx
    simp at hx
    subst hx
    exact .v
  · exact .fn rfl (fun i x u h => by simp at h) rfl (fun i x u h => by simp at h)
  · exact .v
def EnvR (H : Array Obj) (F : Nat → Prop) (h : Heap) (M : Id → Option Nat) (e : Nat → Option AV) (a : Act) : Prop := ∀ k x, e k = some x → VR H F h M x (a.tmps.getD k undef)
theorem opnd_ok {H : Array Obj} {e : Nat → Option AV} {a : Act} (he : EnvR H F h M e a) {x : Operand} {y : AV} (ho : opnd e x = some y) : VR H F h M y (a.eval x) := by
  cases x with
  | tmp t => exact he t y ho
  | const v => simp only [opnd, Option.some.injEq] at ho; subst ho; exact .c (lift_ok v)
  | global g => cases ho
  | func f => simp only [opnd, Option.some.injEq] at ho; subst ho; exact .fn rfl (fun i x u h => by simp at h) rfl (fun i x u h => by simp at h)
theorem optL_ok {α β : Type} {f : α → Option β} : ∀ {l : List α} {ys : List β}, optL f l = some ys → l.length = ys.length ∧ ∀ (i : Nat) y, ys[i]? = some y → ∃ x, l[i]? = some x ∧ f x = some y
  | [], ys, h => by simp only [optL, Option.some.injEq] at h; subst h; exact ⟨rfl, fun i y h => by simp at h⟩
  | a :: l, ys, h => by
    simp only [optL, Option.bind_eq_some_iff, Option.some.injEq] at h
    obtain ⟨b, h1, bs, h2, rfl⟩ := h
    obtain ⟨hl, hx⟩ := optL_ok h2
    refine ⟨by simp [hl], fun i y hy => ?_⟩
    cases i with
    | zero => simp at hy; subst hy; exact ⟨a, rfl, h1⟩
    | succ i => simp at hy; simpa using hx i y hy
theorem opnds_ok {H : Array Obj} {e : Nat → Option AV} {a : Act} (he : EnvR H F h M e a) {xs : List Operand} {ys : List AV} (ho : optL (opnd e) xs = some ys) :
    ys.length = (xs.map a.eval).length ∧ ∀ (i : Nat) y u, ys[i]? = some y → (xs.map a.eval)[i]? = some u → VR H F h M y u := by
  obtain ⟨h1, h2⟩ := optL_ok ho
  refine ⟨by simp [h1], fun i y u hy hu => ?_⟩
  obtain ⟨x, hx1, hx2⟩ := h2 i y hy
  rw [List.getElem?_map, hx1] at hu
  simp at hu
  subst hu
  exact opnd_ok he hx2
theorem HOK.along (hk : HOK w.heap F h M) {id : Id} {blk : Blk} (hg : h.get id = some blk) {b : Nat} (hb : M id = some b) : ∃ cur e, w.heap[b]? = some (.cells cur e (0, 0)) ∧ Along cur 0 (VR w.heap F h M) blk.cells := by
  have hr := hk.row id blk hg
  cases blk with
  | sl cl rw sz e cells =>
    rcases hr.2 with ⟨_, h0⟩ | ⟨b', cur, t, h1, h2, _, _, h3⟩
    · rw [hb] at h0; cases h0
    · rw [hb] at h1; injection h1 with h1; subst h1
      refine ⟨cur, t, h2, fun i x hx => ?_⟩
      obtain ⟨u, a1, a2, a3⟩ := h3 i x hx
      refine ⟨u, by simpa using a1, ?_⟩
      cases cl with
      | true => exact .c (a2 rfl)
      | false => exact a3 rfl
  | bx rw cells =>
    obtain ⟨b', cur, t, h1, h2, _, _, _, h3⟩ := hr
    rw [hb] at h1; injection h1 with h1; subst h1
    refine ⟨cur, t, h2, fun i x hx => ?_⟩
    obtain ⟨u, a1, a2⟩ := h3 i x hx
    exact ⟨u, by simpa using a1, a2⟩
theorem AggOr.vr {H : Array Obj} {y : AV} {u : Value} (h1 : AggOr (VR H F h M) y u) : VR H F h M y u := by
  rcases h1 with h1 | ⟨ys, us, rfl, rfl, h2, h3⟩
  · exact h1
  · exact .agg h2 h3
theorem AggOr.vc {H : Array Obj} {y : AV} {u : Value} (h1 : AggOr (VC H F) y u) : VC H F y u := by
  rcases h1 with h1 | ⟨ys, us, rfl, rfl, h2, h3⟩
  · exact h1
  · exact .agg h2 h3
theorem VC.ref_inv {H : Array Obj} {xs : List AV} {off : Nat} {u : Value} (hv : VC H F (.ref xs off) u) :
    ∃ b o cur e fz, u = .pointer (some ⟨b, o + off, none⟩) ∧ F b ∧ H[b]? = some (.cells cur e fz) ∧ Along cur o (VC H F) xs ∧ ∃ us : List Value, xs.length = us.length ∧ Row H b o us ∧ ∀ (i : Nat) x u, xs[i]? = some x → us[i]? = some u → VC H F x u := by
  cases hv with
  | @ref _ _ b o us hF hr hl hx =>
    obtain ⟨cur, e, fz, h1, h2⟩ := hr
    refine ⟨b, o, cur, e, fz, rfl, hF, h1, fun i x hxi => ?_, us, hl, ⟨cur, e, fz, h1, h2⟩, hx⟩
    obtain ⟨u, a1, a2⟩ := all2_get hl hx hxi
    exact ⟨u, h2 i u a1, a2⟩
theorem aload_ok (hk : HOK w.heap F h M) {x y : AV} {u : Value} {t : TypeId} (hv : VR w.heap F h M x u) (e : aload P h.get t x = some y) : ∃ v, (Instr.loadAt t u).run P w = .ok v w ∧ VR w.heap F h M y v := by
  unfold aload at e
  split at e
  · rename_i id off ext
    simp only [Option.bind_eq_some_iff] at e
    obtain ⟨blk, hg, e⟩ := e
    split at e
    · rename_i hext
      obtain ⟨blk', hg', _, ho⟩ := hv.ptr_inv
      rw [hg] at hg'; injection hg' with hg'; subst hg'
      obtain ⟨b, hM, rfl⟩ := ho hext
      obtain ⟨cur, et, h1, h2⟩ := hk.along hg hM
      obtain ⟨v, h3, h4⟩ := run_loadVar_part (P := P) (o := 0) h1 h2 e
      exact ⟨v, by simpa [Instr.loadAt, Instr.sureAddr] using h3, h4.vr⟩
    · cases e
  · rename_i xs off
    obtain ⟨b, o, cur, et, fz, rfl, _, h1, h2, _⟩ := hv.ref_inv.ref_inv
    obtain ⟨v, h3, h4⟩ := run_loadVar_part (P := P) h1 h2 e
    exact ⟨v, by simpa [Instr.loadAt, Instr.sureAddr] using h3, .c h4.vc⟩
  · cases e
theorem VC.ref_off {H : Array Obj} {xs : List AV} {off : Nat} {u : Value} (hv : VC H F (.ref xs off) u) (k : Nat) : ∃ a, u = .pointer (some a) ∧ VC H F (.ref xs (off + k)) (.pointer (some (a.add k))) := by
  cases hv with
  | @ref _ _ b o us hF hr hl hx =>
    refine ⟨_, rfl, ?_⟩
    rw [addr_add, Nat.add_assoc]
    exact .ref hF hr hl hx
theorem ptr_off (hk : HOK w.heap F h M) {id : Id} {off ext : Nat} {u : Value} (hv : VR w.heap F h M (.ptr id off ext) u) {blk : Blk} (hg : h.get id = some blk) (he : blk.ext = ext) (k : Nat) :
    ∃ a, u = .pointer (some a) ∧ VR w.heap F h M (.ptr id (off + k) ext) (.pointer (some (a.add k))) := by
  obtain ⟨blk', hg', hle, ho⟩ := hv.ptr_inv
  rw [hg] at hg'; injection hg' with hg'; subst hg'
  obtain ⟨b, hM, rfl⟩ := ho he
  exact ⟨_, rfl, .ptr hg hle fun _ => ⟨b, hM, by rw [addr_add]⟩⟩
theorem live_some {g : Id → Option Blk} {id : Id} {ext : Nat} (hl : live g id ext = true) : ∃ b, g id = some b ∧ b.ext = ext := by
  unfold live at hl
  split at hl
  · rename_i b hb; exact ⟨b, hb, by simpa using hl⟩
  · cases hl
theorem fieldOf_some {s : TypeId} {i o : Nat} {t : TypeId} (hf : fieldOf P s i = some (o, t)) : ∃ fs f, P.underlying s = some (.struct fs) ∧ fs[i]? = some f ∧ f.offset = o ∧ f.type = t := by
  unfold fieldOf at hf
  split at hf
  · rename_i fs hu
    rw [Option.map_eq_some_iff] at hf
    obtain ⟨f, h1, h2⟩ := hf
    simp only [Prod.mk.injEq] at h2
    exact ⟨fs, f, hu, h1, h2.1, h2.2⟩
  · cases hf
theorem tsize_info {t : TypeId} (h0 : tsize P t ≠ 0) : ∃ i, P.info? t = some i := by
  unfold tsize Program.cellsOf at h0
  cases hi : P.info? t with
  | none => rw [hi] at h0; simp at h0
  | some i => exact ⟨i, rfl⟩
theorem afield_ok (hk : HOK w.heap F h M) {x y : AV} {u : Value} {s : TypeId} {i : Nat} (hv : VR w.heap F h M x u) (e : afield P s h.get x i = some y) :
    ∃ v, (Instr.fieldAt s u i).run P w = .ok v w ∧ VR w.heap F h M y v := by
  unfold afield at e
  simp only [Option.bind_eq_some_iff, Prod.exists] at e
  obtain ⟨o, t, hf, e⟩ := e
  obtain ⟨fs, f, hu, hfs, rfl, rfl⟩ := fieldOf_some hf
  split at e
  · cases e
  · rename_i h0
    obtain ⟨inf, hinf⟩ := tsize_info h0
    have h0' : P.cellsOf f.type ≠ 0 := h0
    have run : ∀ a : Addr, (Instr.fieldAt s (.pointer (some a)) i).run P w = .ok (.pointer (some (a.add f.offset))) w := fun a => by
      simp [Instr.fieldAt, run_underlying hu, hfs, Instr.sureAddr, fieldPlace, run_sizeOf w hinf, h0']
    split at e
    · split at e
      · rename_i id off ext hl
        obtain ⟨b, hg, hb⟩ := live_some hl
        obtain ⟨a, rfl, h1⟩ := ptr_off hk hv hg hb f.offset
        injection e with e; subst e
        exact ⟨_, run a, h1⟩
      · cases e
    · obtain ⟨a, rfl, h1⟩ := hv.ref_inv.ref_off f.offset
      injection e with e; subst e
      exact ⟨_, run a, .c h1⟩
    · cases e
theorem run_indexAt_in {t e : TypeId} {inf : TypeInfo} (hu : P.underlying t = some (.slice e)) (hi : P.info? e = some inf) (a : Addr) (n c : Nat) (k : IntKind) (i : Int) (h0 : 0 ≤ i) (h1 : i < n) :
    (Instr.indexAt t (.slice (some a) n c) (.int k i)).run P w = .ok (.pointer (some (a.add (i.toNat * inf.size)))) w := by
  simp [Instr.indexAt, asIntOf, run_underlying hu, h0, h1, sizeOf, typeInfo, hi]
theorem run_indexAt_arr {t e : TypeId} {inf : TypeInfo} {len : Nat} (hu : P.underlying t = some (.array len e)) (hi : P.info? e = some inf) (a : Addr) (k : IntKind) (i : Int) (h0 : 0 ≤ i) (h1 : i < len) :
    (Instr.indexAt t (.pointer (some a)) (.int k i)).run P w = .ok (.pointer (some (a.add (i.toNat * inf.size)))) w := by
  simp [Instr.indexAt, Instr.sureAddr, asIntOf, run_underlying hu, h0, h1, sizeOf, typeInfo, hi]
theorem aindexAddr_ok (hk : HOK w.heap F h M) {x y : AV} {u : Value} {t : TypeId} {k : IntKind} {i : Int} (hv : VR w.heap F h M x u) (e : aindexAddr P t h.get x i = some y) :
    ∃ v, (Instr.indexAt t u (.int k i)).run P w = .ok v w ∧ VR w.heap F h M y v := by
  unfold aindexAddr at e
  simp only [Option.bind_eq_some_iff] at e
  obtain ⟨tv, htv, e⟩ := e
  split at e
  · rename_i et sz by_ n xs
    obtain ⟨hu, inf, hi, rfl, rfl⟩ := tview_slice htv
    split at e
    · rename_i hc
      injection e with e; subst e
      have hvc := hv.arr_inv
      cases hvc with
      | arr0 => obtain ⟨h1, h2⟩ := hc; omega
      | @arr _ _ b o c us hcap hF hr hl hx =>
        refine ⟨_, run_indexAt_in hu hi _ _ _ _ _ hc.1 hc.2, ?_⟩
        rw [addr_add]
        exact .c (.ref hF hr hl hx)
    · cases e
  · rename_i et sz by_ id off n ext
    obtain ⟨hu, inf, hi, rfl, rfl⟩ := tview_slice htv
    simp only [Option.bind_eq_some_iff] at e
    obtain ⟨blk, hg, e⟩ := e
    split at e
    · split at e
      · rename_i hc
        obtain ⟨rfl, rfl, hc1, hc2⟩ := hc
        injection e with e; subst e
        obtain ⟨a, c, cl, rw', sz', e', cells', rfl, hg', hn, hle, ho⟩ := hv.own_inv
        rw [hg] at hg'
        injection hg' with hg'
        injection hg' with _ _ h1 h2 h3
        subst h1; subst h2; subst h3
        rcases (ho rfl).2 with ⟨rfl, _⟩ | ⟨b, S, h1, rfl, _⟩
        · omega
        · refine ⟨_, run_indexAt_in hu hi _ _ _ _ _ hc1 hc2, ?_⟩
          rw [addr_add]
          exact .ptr hg (Nat.le_refl _) fun _ => ⟨b, h1, rfl⟩
      · cases e
    · cases e
  · rename_i n et sz id off ext
    obtain ⟨hu, inf, hi, rfl⟩ := tview_array htv
    split at e
    · rename_i hc
      injection e with e; subst e
      obtain ⟨b, hg, hb⟩ := live_some hc.1
      obtain ⟨a, rfl, h1⟩ := ptr_off hk hv hg hb (i.toNat * inf.size)
      exact ⟨_, run_indexAt_arr hu hi a k i hc.2.1 hc.2.2, h1⟩
    · cases e
  · rename_i n et sz xs off
    obtain ⟨hu, inf, hi, rfl⟩ := tview_array htv
    split at e
    · rename_i hc
      injection e with e; subst e
      obtain ⟨a, rfl, h1⟩ := hv.ref_inv.ref_off (i.toNat * inf.size)
      exact ⟨_, run_indexAt_arr hu hi a k i hc.1 hc.2, .c h1⟩
    · cases e
  · cases e
theorem run_part_cells {t : TypeId} {off : Nat} {xs : List AV} {us : List Value} {y : AV} {R : AV → Value → Prop} (hl : xs.length = us.length) (hx : ∀ (i : Nat) x u, xs[i]? = some x → us[i]? = some u → R x u)
    (hp : part P xs t off = some y) : ∃ u, (Go.part t ⟨us⟩ off).run P w = .ok u w ∧ AggOr R y u := by
  unfold part at hp
  rw [Option.bind_eq_some_iff] at hp
  obtain ⟨tv, htv, hp⟩ := hp
  obtain ⟨d, hd⟩ := tview_some htv
  obtain ⟨inf, hinf⟩ := info_of_underlying hd
  have agg : ∀ (hag : aggD d = true), off + tsize P t ≤ xs.length → y = .agg ((xs.drop off).take (tsize P t)) → ∃ u, (Go.part t ⟨us⟩ off).run P w = .ok u w ∧ AggOr R y u := fun hag hle hy => by
    have : P.cellsOf t = tsize P t := rfl
    refine ⟨.agg ⟨(us.drop off).take (tsize P t)⟩, ?_, .inr ⟨_, _, hy, rfl, by simp; omega, fun i x u h1 h2 => ?_⟩⟩
    · simp only [Go.part, Sem.run_bind, run_isAgg hd, hag, Result.andThen_ok, if_true, run_sizeOf w hinf, this, Sem.run_pure]
      congr 3
      simp [Nat.add_sub_cancel_left]
    · rw [List.getElem?_take] at h1 h2
      by_cases hi : i < tsize P t
      · rw [if_pos hi, List.getElem?_drop] at h1 h2
        exact hx _ _ _ h1 h2
      · rw [if_neg hi] at h1; cases h1
  have single : ∀ (hag : aggD d = false), xs[off]? = some y → ∃ u, (Go.part t ⟨us⟩ off).run P w = .ok u w ∧ AggOr R y u := fun hag hy => by
    obtain ⟨u, h1, h2⟩ := all2_get hl hx hy
    refine ⟨u, ?_, .inl h2⟩
    simp only [Go.part, Sem.run_bind, run_isAgg hd, hag, Result.andThen_ok, Bool.false_eq_true, if_false]
    simp [h1]
  cases tv with
  | struct =>
    obtain ⟨fs, hu, _⟩ := tview_struct htv
    rw [hd] at hu; injection hu with hu; subst hu
    dsimp only at hp
    split at hp
    · exact agg rfl (by assumption) (by injection hp with hp; exact hp.symm)
    · cases hp
  | array n el sz =>
    obtain ⟨hu, _⟩ := tview_array htv
    rw [hd] at hu; injection hu with hu; subst hu
    dsimp only at hp
    split at hp
    · exact agg rfl (by assumption) (by injection hp with hp; exact hp.symm)
    · cases hp
  | slice e sz by_ => obtain ⟨hu, _⟩ := tview_slice htv; rw [hd] at hu; injection hu with hu; subst hu; exact single rfl hp
  | str => have hu := tview_str htv; rw [hd] at hu; injection hu with hu; subst hu; exact single rfl hp
  | int k => have hu := tview_int htv; rw [hd] at hu; injection hu with hu; subst hu; exact single rfl hp
  | bool => have hu := tview_bool htv; rw [hd] at hu; injection hu with hu; subst hu; exact single rfl hp
  | other =>
    refine single ?_ hp
    unfold tview at htv
    rw [hd] at htv
    cases d <;> first | rfl | (simp at htv)
theorem run_equal_bool {t : TypeId} (hu : P.underlying t = some .bool) (a b : Bool) : (Op.equal t (.bool a) (.bool b)).run P w = .ok (a == b) w := by
  have hd : ∀ d, (Op.equalIn (d + 1) t (.bool a) (.bool b)).run P w = .ok (a == b) w := fun d => by simp [Op.equalIn, run_underlying hu]
  exact hd 9999
theorem run_equal_nil {t e : TypeId} (hu : P.underlying t = some (.slice e)) (a : Option Addr) (m c m' c' : Nat) : (Op.equal t (.slice a m c) (.slice none m' c')).run P w = .ok a.isNone w := by
  have hd : ∀ d, (Op.equalIn (d + 1) t (.slice a m c) (.slice none m' c')).run P w = .ok a.isNone w := fun d => by cases a <;> simp [Op.equalIn, run_underlying hu]
  exact hd 9999
theorem nil_run {op : BinOp} {r : AV} {t e : TypeId} {p q : Operand} (hu : P.underlying t = some (.slice e)) (a : Option Addr) (m c m' c' : Nat) (he : anil op a.isNone = some r) :
    ∃ z, (do eqGuard op t p q (.slice a m c) (.slice none m' c'); binOp op t (.slice a m c) (.slice none m' c') : Sem Value).run P w = .ok z w ∧ r = .v z := by
  have heq := run_equal_nil (w := w) hu a m c m' c'
  have hgd : ∀ op, (eqGuard op t p q (.slice a m c) (.slice none m' c')).run P w = .ok () w := fun op => by cases op <;> simp [eqGuard]
  simp only [Sem.run_bind, hgd, Result.andThen_ok]
  cases op <;> simp only [anil, Option.some.injEq] at he <;> first | (cases he; done) | skip
  all_goals
    subst he
    refine ⟨_, ?_, rfl⟩
    simp only [binOp, Sem.run_bind, heq, Result.andThen_ok, Sem.run_pure]
theorem run_all {k : Nat → Option Bool × PUnit → Sem (ForInStep (Option Bool × PUnit))} (g : Nat → Option Bool) : ∀ (l : List Nat) (r : Bool), (∀ i ∈ l, ∀ b, g i = some b → ∀ s, (k i s).run P w = .ok (if b = true then .yield (none, ⟨⟩) else .done (some false, ⟨⟩)) w) → aeqL g l = some r →
    (forIn l ((none, ⟨⟩) : Option Bool × PUnit) k : Sem (Option Bool × PUnit)).run P w = .ok (if r = true then (none, ⟨⟩) else (some false, ⟨⟩)) w
  | [], r, h, hr => by simp only [aeqL, Option.some.injEq] at hr; subst hr; simp
  | i :: l, r, h, hr => by
    simp only [aeqL, Option.bind_eq_some_iff] at hr
    obtain ⟨b, hb, hr⟩ := hr
    have h1 := h i (by simp) b hb
    cases b with
    | true =>
      rw [if_pos rfl] at hr
      have ih := run_all (k := k) g l r (fun j hj => h j (by simp [hj])) hr
      simp only [List.forIn_cons, Sem.run_bind, h1, Result.andThen_ok, if_true]
      exact ih
    | false =>
      rw [if_neg (by decide)] at hr
      injection hr with hr
      subst hr
      simp only [List.forIn_cons, Sem.run_bind, h1, Result.andThen_ok]
      simp
theorem arr_eq {t e : TypeId} {n : Nat} {xs ys : Array Value} {sz : Nat} {inf : TypeInfo} {d : Nat} {g : Nat → Option Bool} {r : Bool} (hu : P.underlying t = some (.array n e)) (hi : P.info? e = some inf) (hs : inf.size = sz)
    (hg : ∀ i, i < n → ∀ b, g i = some b → ∃ a c, (Go.part e xs (i * sz)).run P w = .ok a w ∧ (Go.part e ys (i * sz)).run P w = .ok c w ∧ (Op.equalIn d e a c).run P w = .ok b w) (hr : aeqL g (List.range n) = some r) :
    (Op.equalIn (d + 1) t (.agg xs) (.agg ys)).run P w = .ok r w := by
  unfold Op.equalIn
  simp only [Sem.run_bind, run_underlying hu, Result.andThen_ok, sizeOf, typeInfo]
  simp [hi, hs]
  rw [List.range_eq_range'] at hr
  rw [run_all g _ r (fun i hmem b hb s => ?_) hr]
  · cases r <;> simp
  · obtain ⟨a, c, h1, h2, h3⟩ := hg i (by simpa using hmem) b hb
    simp only [Sem.run_bind, h1, h2, h3, Result.andThen_ok]
    cases b <;> simp
theorem run_allF {k : Field → Option Bool × PUnit → Sem (ForInStep (Option Bool × PUnit))} (g : Field → Option Bool) : ∀ (l : List Field) (r : Bool), (∀ i ∈ l, ∀ b, g i = some b → ∀ s, (k i s).run P w = .ok (if b = true then .yield (none, ⟨⟩) else .done (some false, ⟨⟩)) w) → aeqF g l = some r →
    (forIn l ((none, ⟨⟩) : Option Bool × PUnit) k : Sem (Option Bool × PUnit)).run P w = .ok (if r = true then (none, ⟨⟩) else (some false, ⟨⟩)) w
  | [], r, h, hr => by simp only [aeqF, Option.some.injEq] at hr; subst hr; simp
  | i :: l, r, h, hr => by
    simp only [aeqF, Option.bind_eq_some_iff, Option.some.injEq] at hr
    obtain ⟨b, hb, c, hc, hr⟩ := hr
    have h1 := h i (by simp) b hb
    cases b with
    | true =>
      have ih := run_allF (k := k) g l c (fun j hj => h j (by simp [hj])) hc
      simp only [List.forIn_cons, Sem.run_bind, h1, Result.andThen_ok, if_true]
      simp only [Bool.true_and] at hr
      subst hr
      exact ih
    | false =>
      simp only [Bool.false_and] at hr
      subst hr
      simp only [List.forIn_cons, Sem.run_bind, h1, Result.andThen_ok]
      simp
theorem struct_eq {t : TypeId} {fs : Array Field} {xs ys : Array Value} {d : Nat} {g : Field → Option Bool} {r : Bool} (hu : P.underlying t = some (.struct fs)) (hs : P.stoodInHeld t = false) (hn : fs.toList.all (fun f => f.name != "_") = true)
    (hg : ∀ f ∈ fs.toList, ∀ b, g f = some b → ∃ a c, (Go.part f.type xs f.offset).run P w = .ok a w ∧ (Go.part f.type ys f.offset).run P w = .ok c w ∧ (Op.equalIn d f.type a c).run P w = .ok b w) (hr : aeqF g fs.toList = some r) :
    (Op.equalIn (d + 1) t (.agg xs) (.agg ys)).run P w = .ok r w := by
  unfold Op.equalIn
  simp only [Sem.run_bind, run_underlying hu, Result.andThen_ok]
  simp [hs]
  rw [← Array.forIn_toList, run_allF g _ r (fun f hmem b hb s => ?_) hr]
  · cases r <;> simp
  · obtain ⟨a, c, h1, h2, h3⟩ := hg f hmem b hb
    have hne : ¬ f.name = "_" := by simpa using List.all_eq_true.1 hn f hmem
    simp only [hne, if_false, Sem.run_bind, h1, h2, h3, Result.andThen_ok]
    cases b <;> simp
theorem aeq_ok : ∀ (d D : Nat), d ≤ D → ∀ {t : TypeId} {x y : AV} {u v : Value} {b : Bool}, VR w.heap F h M x u → VR w.heap F h M y v → aeq P d t x y = some b → (Op.equalIn D t u v).run P w = .ok b w := by
  intro d
  induction d with
  | zero => intro D hD t x y u v b hx hy e; simp [aeq] at e
  | succ d ih =>
    intro D hD t x y u v b hx hy e
    obtain ⟨D, rfl⟩ : ∃ D', D = D' + 1 := ⟨D - 1, by omega⟩
    simp only [aeq, Option.bind_eq_some_iff] at e
    obtain ⟨tv, htv, e⟩ := e
    split at e
    · rename_i k k1 a k2 b'
      have hu := tview_int htv
      obtain rfl := hx.v_inv
      obtain rfl := hy.v_inv
      split at e
      · rename_i hk
        injection e with e
        subst e
        unfold Op.equalIn
        simp [run_underlying hu, hk]
      · cases e
    · rename_i n el sz xs ys
      obtain ⟨hu, inf, hi, hs⟩ := tview_array htv
      obtain ⟨us, rfl, hl, hx⟩ := hx.agg_inv
      obtain ⟨vs, rfl, hl2, hy⟩ := hy.agg_inv
      refine arr_eq hu hi hs (fun i hin b hb => ?_) e
      simp only [Option.bind_eq_some_iff] at hb
      obtain ⟨a, ha, c, hc, hb⟩ := hb
      obtain ⟨a', h1, h2⟩ := run_part_cells (P := P) (w := w) hl hx ha
      obtain ⟨c', h3, h4⟩ := run_part_cells (P := P) (w := w) hl2 hy hc
      exact ⟨a', c', h1, h3, ih D (by omega) h2.vr h4.vr hb⟩
    · rename_i xs ys
      split at e
      · rename_i fs hu
        split at e
        · rename_i hc
          obtain ⟨us, rfl, hl, hx⟩ := hx.agg_inv
          obtain ⟨vs, rfl, hl2, hy⟩ := hy.agg_inv
          refine struct_eq hu hc.1 hc.2 (fun f hf b hb => ?_) e
          simp only [Option.bind_eq_some_iff] at hb
          obtain ⟨a, ha, c, hc, hb⟩ := hb
          obtain ⟨a', h1, h2⟩ := run_part_cells (P := P) (w := w) hl hx ha
          obtain ⟨c', h3, h4⟩ := run_part_cells (P := P) (w := w) hl2 hy hc
          exact ⟨a', c', h1, h3, ih D (by omega) h2.vr h4.vr hb⟩
        · cases e
      · cases e
    · cases e
theorem abin_ok {op : BinOp} {x y r : AV} {u v : Value} {t : TypeId} {p q : Operand} (hx : VR w.heap F h M x u) (hy : VR w.heap F h M y v) (e : abin P op t x y = some r) :
    ∃ z, (do eqGuard op t p q u v; binOp op t u v : Sem Value).run P w = .ok z w ∧ r = .v z := by
  unfold abin at e
  split at e
  · rename_i k a k' b
    unfold abinI at e
    obtain rfl := hx.v_inv
    obtain rfl := hy.v_inv
    have hgd : ∀ op, (eqGuard op t p q (.int k a) (.int k' b)).run P w = .ok () w := fun op => by cases op <;> simp [eqGuard]
    split at e
    · rename_i hsh
      simp only [Option.bind_eq_some_iff, Option.some.injEq] at e
      obtain ⟨r', e1, rfl⟩ := e
      refine ⟨_, ?_, rfl⟩
      simp only [Sem.run_bind, hgd, Result.andThen_ok]
      cases op <;> simp [BinOp.isSh] at hsh <;> simp only [shA] at e1 <;> split at e1 <;> first | (cases e1; done) | skip
      all_goals
        rename_i hb
        injection e1 with e1
        subst e1
        simp [binOp, Op.shift, hb]
    · rename_i hsh
      split at e
      · rename_i hkk
        subst hkk
        split at e
        · rename_i hcmp
          simp only [Option.bind_eq_some_iff, Option.some.injEq] at e
          obtain ⟨r', e1, rfl⟩ := e
          refine ⟨_, ?_, rfl⟩
          simp only [Sem.run_bind, hgd, Result.andThen_ok]
          cases op <;> simp [BinOp.isCmp] at hcmp <;> simp only [intCmpA, Option.some.injEq] at e1 <;> subst e1 <;> simp [binOp, Op.intCmp]
        · rename_i hcmp
          simp only [Option.bind_eq_some_iff, Option.some.injEq] at e
          obtain ⟨r', e1, rfl⟩ := e
          refine ⟨_, ?_, rfl⟩
          simp only [Sem.run_bind, hgd, Result.andThen_ok]
          cases op <;> simp [BinOp.isCmp, BinOp.isSh] at hcmp hsh <;> simp only [arithA, bitsA, Option.some.injEq] at e1
          all_goals first
            | (subst e1; simp [binOp, Op.intArith, Op.intBits]; done)
            | (split at e1
               · cases e1
               · rename_i hb
                 injection e1 with e1
                 subst e1
                 simp [binOp, Op.intDiv, hb])
      · cases e
  · rename_i a b
    obtain rfl := hx.v_inv
    obtain rfl := hy.v_inv
    simp only [Option.bind_eq_some_iff] at e
    obtain ⟨tv, htv, e⟩ := e
    split at e
    · have hu := tview_bool htv
      have heq : (Op.equal t (.bool a) (.bool b)).run P w = .ok (a == b) w := run_equal_bool hu a b
      have hgd : ∀ op, (eqGuard op t p q (.bool a) (.bool b)).run P w = .ok () w := fun op => by cases op <;> simp [eqGuard]
      simp only [Sem.run_bind, hgd, Result.andThen_ok]
      cases op <;> simp only [abinB, Option.some.injEq] at e <;> first | (cases e; done) | skip
      all_goals
        subst e
        refine ⟨_, ?_, rfl⟩
        simp only [binOp, Sem.run_bind, heq, Result.andThen_ok, Sem.run_pure]
    · cases e
  · rename_i a m c m' c'
    obtain rfl := hx.v_inv
    obtain rfl := hy.v_inv
    simp only [Option.bind_eq_some_iff] at e
    obtain ⟨tv, htv, e⟩ := e
    split at e
    · obtain ⟨hu, _⟩ := tview_slice htv
      exact nil_run hu a m c m' c' e
    · cases e
  · rename_i m xs m' c'
    obtain rfl := hy.v_inv
    split at e
    · cases e
    rename_i hm
    simp only [Option.bind_eq_some_iff] at e
    obtain ⟨tv, htv, e⟩ := e
    split at e
    · obtain ⟨hu, _⟩ := tview_slice htv
      have hv := hx.arr_inv
      cases hv with
      | arr0 => exact absurd rfl hm
      | @arr _ _ b o c us hc hF hr hl hx => exact nil_run hu (some ⟨b, o, none⟩) m c m' c' e
    · cases e
  · rename_i xs ys
    split at e
    · split at e
      · rename_i hgt
        simp only [Option.bind_eq_some_iff, Option.some.injEq] at e
        obtain ⟨b, hb, rfl⟩ := e
        have he := aeq_ok (w := w) 4 Op.maxDepth (by decide) hx hy hb
        obtain ⟨us, rfl, _, _⟩ := hx.agg_inv
        obtain ⟨vs, rfl, _, _⟩ := hy.agg_inv
        refine ⟨_, ?_, rfl⟩
        have hgd : (eqGuard .eql t p q (.agg ⟨us⟩) (.agg ⟨vs⟩)).run P w = .ok () w := by simp [eqGuard, hgt]
        have heq : (Op.equal t (.agg ⟨us⟩) (.agg ⟨vs⟩)).run P w = .ok b w := he
        simp only [Sem.run_bind, hgd, Result.andThen_ok, binOp, heq, Sem.run_pure]
      · cases e
    · cases e
  · cases e
theorem aun_ok {op : UnOp} {x r : AV} {u : Value} (hx : VR w.heap F h M x u) (e : aun op x = some r) : ∃ z, (Op.unary op u).run P w = .ok z w ∧ r = .v z := by
  unfold aun at e
  split at e
  · obtain rfl := hx.v_inv; injection e with e; exact ⟨_, by simp [Op.unary], e.symm⟩
  · obtain rfl := hx.v_inv; injection e with e; exact ⟨_, by simp [Op.unary, Op.intArith], e.symm⟩
  · obtain rfl := hx.v_inv
    simp only [bitsA, Option.bind_some, Option.some.injEq] at e
    exact ⟨_, by simp [Op.unary, Op.intBits], e.symm⟩
  · cases e
theorem asI_ok {H : Array Obj} {x : AV} {n : Int} {u : Value} (hx : VR H F h M x u) (e : asI x = some n) : ∃ k, u = .int k n := by
  unfold asI at e
  split at e
  · obtain rfl := hx.v_inv; injection e with e; subst e; exact ⟨_, rfl⟩
  · cases e
theorem aindex_ok {x y : AV} {u : Value} {t : TypeId} {k : IntKind} {i : Int} (hv : VR w.heap F h M x u) (e : aindex P t x i = some y) :
    ∃ v, (Instr.index t u (.int k i)).run P w = .ok v w ∧ VR w.heap F h M y v := by
  unfold aindex at e
  simp only [Option.bind_eq_some_iff] at e
  obtain ⟨tv, htv, e⟩ := e
  split at e
  · rename_i n et sz xs
    obtain ⟨hu, inf, hi, rfl⟩ := tview_array htv
    split at e
    · rename_i hc
      obtain ⟨us, rfl, hl, hx⟩ := hv.agg_inv
      obtain ⟨v, h1, h2⟩ := run_part_cells (P := P) (w := w) hl hx e
      refine ⟨v, ?_, h2.vr⟩
      simpa [Instr.index, asIntOf, run_underlying hu, hc, sizeOf, typeInfo, hi] using h1
    · cases e
  · rename_i s
    have hu := tview_str htv
    obtain rfl := hv.v_inv
    split at e
    · rename_i hc
      simp only [Option.bind_eq_some_iff, Option.some.injEq] at e
      obtain ⟨b, hb, rfl⟩ := e
      refine ⟨_, ?_, .c .v⟩
      simp [Instr.index, asIntOf, run_underlying hu, hc, hb]
    · cases e
  · cases e
end
end Go.Av
