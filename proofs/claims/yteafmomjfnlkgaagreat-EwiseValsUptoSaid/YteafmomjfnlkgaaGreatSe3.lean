/- Appends. Conditions: none. -/
import Derived.Test.YteafmomjfnlkgaaGreatSe2
set_option linter.unusedVariables false
namespace Go.Av
section
variable {P : Program} {w : World} {F : Nat → Prop} {h : Heap} {M : Id → Option Nat}
structure NewsR (P : Program) (w : World) (R : AV → Value → Prop) (v : Value) (m : Nat) (ys : List AV) (us : List Value) : Prop where
  len : ys.length = us.length
  val : ∃ a c, v = .slice a m c ∧ (0 < us.length → ∃ b o, a = some ⟨b, o, none⟩ ∧ ∀ (j : Nat) u, us[j]? = some u → w.cell? ⟨b, o + j, none⟩ = some u)
  rel : ∀ (i : Nat) y u, ys[i]? = some y → us[i]? = some u → R y u
abbrev News (P : Program) (w : World) (G : Nat → Prop) (v : Value) (m : Nat) (ys : List AV) (us : List Value) : Prop := NewsR P w (VC w.heap G) v m ys us
theorem news_of_arr {G : Nat → Prop} {m : Nat} {ys : List AV} {v : Value} (hv : VC w.heap G (.arr m ys) v) : ∃ us, News P w G v m ys us := by
  cases hv with
  | @arr0 a c => exact ⟨[], rfl, ⟨a, c, rfl, fun h => by simp at h⟩, fun i y u h => by simp at h⟩
  | @arr _ _ b o c us hc hF hr hl hx =>
    obtain ⟨cur, e, fz, q1, q2⟩ := hr
    exact ⟨us, hl, ⟨_, _, rfl, fun _ => ⟨b, o, rfl, fun j u hj => by rw [cell_of q1]; exact q2 j u hj⟩⟩, hx⟩
theorem newsOf_ok (hk : HOK w.heap F h M) {y : AV} {v : Value} {m : Nat} {ys : List AV} (hv : VR w.heap F h M y v) (e : newsOf h.get y = some (m, ys)) :
    ∃ us, News P w (fun c => F c ∨ Of h M (inner h.get y) c) v m ys us := by
  unfold newsOf at e
  simp only [Option.bind_eq_some_iff] at e
  obtain ⟨z, hz, e⟩ := e
  split at e
  · simp only [Option.some.injEq, Prod.mk.injEq] at e
    obtain ⟨rfl, rfl⟩ := e
    cases y with
    | v x =>
      obtain rfl := hv.v_inv
      by_cases hx : ∃ a c, v = .slice a 0 c
      · obtain ⟨a, c, rfl⟩ := hx
        simp only [exportV, Option.some.injEq, AV.arr.injEq] at hz
        obtain ⟨rfl, rfl⟩ := hz
        exact news_of_arr .arr0
      · exfalso
        have : exportV h.get 4 (.v v) = some (.v v) := by
          unfold exportV
          split <;> simp_all
        rw [this] at hz; cases hz
    | arr n xs =>
      simp only [exportV, Option.some.injEq, AV.arr.injEq] at hz
      obtain ⟨rfl, rfl⟩ := hz
      exact news_of_arr (hv.arr_inv.grow fun _ h => .inl h)
    | own id off n ext =>
      cases hg : h.get id with
      | none => simp [exportV, hg] at hz
      | some blk =>
        cases blk with
        | bx rw cells => simp [exportV, hg] at hz
        | sl cl rw sz ee cells =>
          cases cl with
          | true =>
            simp only [exportV, hg, Option.bind_some] at hz
            split at hz
            · rename_i hee
              simp only [Option.some.injEq, AV.arr.injEq] at hz
              obtain ⟨rfl, rfl⟩ := hz
              -- the cells are closed: the row itself need not stand still
              obtain ⟨a, c, cl, rw', sz', e', cells', rfl, hg', hn, hle, ho⟩ := hv.own_inv
              rw [hg] at hg'
              injection hg' with hg'
              injection hg' with _ _ h1 h2 h3
              subst h1; subst h2; subst h3; subst hee
              obtain ⟨hl, hr⟩ := hk.row _ _ hg
              rcases (ho rfl).2 with ⟨rfl, rfl⟩ | ⟨b, S, h1, rfl, h3, h4⟩
              · rw [cut_zero hl]
                exact news_of_arr .arr0
              · rcases hr with ⟨_, h0⟩ | ⟨b', cur, t, h6, h7, _, _, h8⟩
                · rw [h1] at h0; cases h0
                · rw [h1] at h6; injection h6 with h6; subst h6
                  obtain ⟨k, m', hc, rfl⟩ := cut_get (cells := cells) (off := off) (n := n) (sz := sz) (ext := ee)
                  rw [hc]
                  obtain ⟨us, ⟨cur', e2, fz, p1, p2⟩, hU, hX⟩ := row_piece (R := VC w.heap F) h7 (fun i x hx => let ⟨u, a1, a2, _⟩ := h8 i x hx; ⟨u, a1, a2 rfl⟩) k m'
                  exact ⟨us, hU, ⟨_, _, rfl, fun _ => ⟨b, k, rfl, fun j u hj => by rw [cell_of p1]; exact p2 j u hj⟩⟩, fun i y u a b => (hX i y u a b).grow fun _ h => .inl h⟩
            · cases hz
          | false =>
            simp only [exportV, hg, Option.bind_some] at hz
            split at hz
            · rename_i hee
              simp only [Option.bind_eq_some_iff, Option.some.injEq, AV.arr.injEq] at hz
              obtain ⟨cs, e1, rfl, rfl⟩ := hz
              subst hee
              obtain ⟨a, c, cl, rw', sz', e', cells', rfl, hg', hn, hle, ho⟩ := hv.own_inv
              rw [hg] at hg'
              injection hg' with hg'
              injection hg' with _ _ h1 h2 h3
              subst h1; subst h2; subst h3
              obtain ⟨hl, hr⟩ := hk.row _ _ hg
              obtain ⟨q1, q2⟩ := mapM_get e1
              rcases (ho rfl).2 with ⟨rfl, rfl⟩ | ⟨b, S, h1, rfl, h3, h4⟩
              · rw [cut_zero (by omega)]
                exact news_of_arr .arr0
              · rcases hr with ⟨_, h0⟩ | ⟨b', cur, t, h6, h7, _, _, h8⟩
                · rw [h1] at h0; cases h0
                · rw [h1] at h6; injection h6 with h6; subst h6
                  obtain ⟨k, m', hc, rfl⟩ := cut_get (cells := cs) (off := off) (n := n) (sz := sz) (ext := ee)
                  rw [hc]
                  obtain ⟨us, ⟨cur', e2, fz, p1, p2⟩, hU, hX⟩ := row_piece (R := VC w.heap (fun c => F c ∨ Of h M (inner h.get (.own id k n ee)) c)) h7 (fun i x hx => by
                    obtain ⟨z, hz1, hz2⟩ := q2 i x hx
                    obtain ⟨u, a1, _, a2⟩ := h8 i z hz1
                    exact ⟨u, a1, (exportV_ok hk 3 z u x (a2 rfl) hz2).grow fun b hb => hb.imp_right fun ⟨j, k', hj, hm⟩ => ⟨j, k', by
                      simp only [inner, hg]
                      exact mem_flatten_map (List.mem_of_getElem? hz1) hj, hm⟩⟩) k m'
                  exact ⟨us, hU, ⟨_, _, rfl, fun _ => ⟨b, k, rfl, fun j u hj => by rw [cell_of p1]; exact p2 j u hj⟩⟩, hX⟩
            · cases hz
    | ref xs off => simp [exportV] at hz
    | ptr id off ext =>
      simp only [exportV, Option.bind_eq_some_iff] at hz
      obtain ⟨blk, _, hz⟩ := hz
      split at hz
      · split at hz
        · simp [Option.bind_eq_some_iff] at hz
        · cases hz
      · cases hz
    | fn f a b => simp [exportV, Option.bind_eq_some_iff] at hz
    | agg xs => simp [exportV, Option.bind_eq_some_iff] at hz
    | tuple xs => simp [exportV, Option.bind_eq_some_iff] at hz
    | fresh sz n xs => simp [exportV] at hz
    | freshO sz n xs => simp [exportV] at hz
    | newbx xs => simp [exportV] at hz
  · cases e
theorem NewsR.first {R : AV → Value → Prop} {v : Value} {m : Nat} {ys : List AV} {us : List Value} (hn : NewsR P w R v m ys us) {sz : Nat} (hl : us.length = m * sz) (w' : World) (hc : ∀ a u, w.cell? a = some u → w'.cell? a = some u) :
    (Builtin.firstCells sz m v).run P w' = .ok us.toArray w' ∧ (Builtin.lenOf v).run P w' = .ok m w' := by
  obtain ⟨a, c, rfl, hx⟩ := hn.val
  refine ⟨?_, by simp [Builtin.lenOf]⟩
  rcases Nat.eq_zero_or_pos us.length with h0 | h0
  · have hus : us = [] := List.eq_nil_of_length_eq_zero h0
    subst hus
    cases a with
    | none => simp [Builtin.firstCells]
    | some a => exact run_firstCells_some (P := P) w' sz m a m c [] hl fun j v h => by simp at h
  · obtain ⟨b, o, rfl, h1⟩ := hx h0
    exact run_firstCells_some (P := P) w' sz m _ m c us hl fun j v h => by rw [addr_add]; exact hc _ _ (h1 j v h)
theorem run_app_none {t e ty : TypeId} {i : TypeInfo} {v : Value} {m n c : Nat} {base : Option Addr} (ht : P.underlying t = some (.slice e)) (hi : P.info? e = some i)
    (hl : (Builtin.lenOf v).run P w = .ok m w) (hf : (Builtin.firstCells i.size m v).run P w = .ok #[] w) (hroom : n + m ≤ c) :
    (Builtin.append_ #[t, t] ty #[.slice base n c, v]).run P w = .ok (.slice base (n + m) c) w := by
  cases base with
  | none => simp [Builtin.append_, run_underlying ht, sizeOf, typeInfo, hi, hl, hroom, hf]
  | some a => simp [Builtin.append_, run_underlying ht, sizeOf, typeInfo, hi, hl, hroom, hf, storeCells]
theorem run_app_room {t e ty : TypeId} {i : TypeInfo} {v : Value} {m n c b : Nat} {us : List Value} {cur : Array Value} {et : TypeId} (ht : P.underlying t = some (.slice e)) (hi : P.info? e = some i)
    (hl : (Builtin.lenOf v).run P w = .ok m w) (hf : (Builtin.firstCells i.size m v).run P w = .ok us.toArray w) (hroom : n + m ≤ c) (hb : w.heap[b]? = some (.cells cur et (0, 0)))
    (hfit : n * i.size + us.length ≤ cur.size) (h1 : ∀ u ∈ us, u.oneCell' = true) :
    (Builtin.append_ #[t, t] ty #[.slice (some ⟨b, 0, none⟩) n c, v]).run P w =
      .ok (.slice (some ⟨b, 0, none⟩) (n + m) c) (w.setRow b (cur.toList.take (n * i.size) ++ us ++ cur.toList.drop (n * i.size + us.length)).toArray) := by
  have hst := run_storeCells_at P b (n * i.size) et us 0 cur w hb (by simpa using hfit) h1
  simp only [Nat.add_zero] at hst
  simp [Builtin.append_, run_underlying ht, sizeOf, typeInfo, hi, hl, hroom, hf, addr_add, hst]
theorem run_app_grow {t e ty : TypeId} {i : TypeInfo} {z : Value} {v : Value} {m n c : Nat} {base : Option Addr} {olds us : List Value} (ht : P.underlying t = some (.slice e)) (hi : P.info? e = some i) (hz : i.zero = some z)
    (hl : (Builtin.lenOf v).run P w = .ok m w) (hf : (Builtin.firstCells i.size m v).run P w.drew = .ok us.toArray w.drew)
    (hfo : (Builtin.firstCells i.size n (.slice base n c)).run P w.drew = .ok olds.toArray w.drew) (hg : c < n + m) (h63 : n + m ≤ 2 ^ 47) (hfit : (n + m) * i.bytes ≤ 2 ^ 47) :
    (Builtin.append_ #[t, t] ty #[.slice base n c, v]).run P w =
      .ok (.slice (some ⟨w.heap.size, 0, none⟩) (n + m) (grownCap w (n + m) c e)) (w.drew.alloc (.cells (olds.toArray ++ us.toArray ++ Builtin.zeroCells z.cells (grownCap w (n + m) c e - (n + m))) e)) := by
  have hn : ¬ (n + m ≤ c) := by omega
  have h63' : ¬ (9223372036854775807 < ((n : Int) + (m : Int))) := by omega
  have hnc := growslice_fits (need := n + m) (old := c) (bytes := i.bytes) hg (by omega)
  have h48' : ¬ (281474976710656 < Builtin.nextslicecap (n + m) c * i.bytes) := by omega
  simp [Builtin.append_, run_underlying ht, sizeOf, typeInfo, zeroValue, hi, hz, hl, hn, h63', h48', Question.forced, hf, hfo, newRow, grownCap]
  rw [show (olds ++ us).toArray = olds.toArray ++ us.toArray from by simp, Array.append_assoc]
theorem cells_along_list {cur : Array Value} {cells : List AV} {R : AV → Value → Prop} (hx : ∀ (i : Nat) x, cells[i]? = some x → ∃ u, cur[i]? = some u ∧ R x u) :
    (cur.toList.take cells.length).length = cells.length ∧ ∀ (i : Nat) x u, cells[i]? = some x → (cur.toList.take cells.length)[i]? = some u → R x u := by
  have hlen : cells.length ≤ cur.size := by
    rcases Nat.eq_zero_or_pos cells.length with h | h
    · omega
    · obtain ⟨u, h1, _⟩ := hx (cells.length - 1) _ (List.getElem?_eq_getElem (by omega))
      have := (Array.getElem?_eq_some_iff.1 h1).1
      omega
  refine ⟨by simp; omega, fun i x u h1 h2 => ?_⟩
  rw [List.getElem?_take] at h2
  split at h2
  · obtain ⟨u', q1, q2⟩ := hx i x h1
    rw [Array.getElem?_toList, q1] at h2
    injection h2 with h2; subst h2; exact q2
  · cases h2
theorem vc_one {H : Array Obj} {x : AV} {u : Value} (hv : VC H F x u) (h1 : x.one = true) : u.oneCell' = true := oneCell_of (h := []) (M := fun _ => none) (.c hv) h1
theorem append_gen {cl : Bool} {R : AV → Value → Prop} (hRk : ∀ (H' : Array Obj) (h' : Heap) (M' : Id → Option Nat), (∀ id x, h.get id = some x → ∃ y, h'.get id = some y ∧ Held w.heap H' M M' id x y) → (∀ b, F b → H'[b]? = w.heap[b]?) → ∀ x u, R x u → (cl = true → VC H' F x u) ∧ (cl = false → VR H' F h' M' x u))
    (hR1 : ∀ x u, R x u → x.one = true → u.oneCell' = true) (hRo : ∀ x u, ((cl = true → VC w.heap F x u) ∧ (cl = false → VR w.heap F h M x u)) → R x u) (hk : HOK w.heap F h M) {t el ty : TypeId} {esz by_ : Nat} (htv : tview P t = some (.slice el esz by_)) {z : List AV} (hz : tzero P el = some z) {id : Id} {n m : Nat} {cells ys : List AV} {us : List Value} {u v : Value}
    (hu : VR w.heap F h M (.own id 0 n n) u) (hg : h.get id = some (.sl cl true esz n cells)) (hn : NewsR P w R v m ys us) (hl : ys.length = m * esz) (h0 : 0 < esz) (h47 : n + m ≤ 2 ^ 47) (hb47 : (n + m) * by_ ≤ 2 ^ 47)
    (h1 : ys.all AV.one = true) (hzl : z.length = esz) : ∃ u' w' M', (Builtin.append_ #[t, t] ty #[u, v]).run P w = .ok u' w' ∧ HOK w'.heap F (h.set id (.sl cl true esz (n + m) (cells ++ ys))) M' ∧
      Evo All w F h M w' F (h.set id (.sl cl true esz (n + m) (cells ++ ys))) M' ∧ VR w'.heap F (h.set id (.sl cl true esz (n + m) (cells ++ ys))) M' (.own id 0 (n + m) (n + m)) u' := by
  obtain ⟨hty, inf, hi, rfl, rfl⟩ := tview_slice htv
  obtain ⟨inf', zv, hi', hzv, rfl⟩ := tzero_ok hz
  rw [hi] at hi'; injection hi' with hi'; subst hi'
  have hzs : zv.cells.size = inf.size := by simpa using hzl
  obtain ⟨a, c, cl', rw', sz', e', cells', rfl, hg', hnc, hle, ho⟩ := hu.own_inv
  rw [hg] at hg'
  injection hg' with hg'
  injection hg' with _ _ q1 q2 q3
  subst q1; subst q2; subst q3
  obtain ⟨hcl, hrow⟩ := hk.row _ _ hg
  obtain ⟨hx, hown⟩ := ho rfl
  have hul : us.length = m * inf.size := by rw [← hn.len]; exact hl
  obtain ⟨hf, hlen⟩ := hn.first hul w fun _ _ h => h
  obtain ⟨hfd, _⟩ := hn.first hul w.drew fun _ _ h => h
  have hone : ∀ u ∈ us, u.oneCell' = true := fun u hu => by
    obtain ⟨i, hi⟩ := List.getElem?_of_mem hu
    have hlt : i < ys.length := by have := (List.getElem?_eq_some_iff.1 hi).1; have := hn.len; omega
    exact hR1 _ _ (hn.rel i _ u (List.getElem?_eq_getElem hlt) hi) (List.all_eq_true.1 h1 _ (List.getElem_mem hlt))
  by_cases hm : m = 0
  · subst hm
    have hys : ys = [] := List.eq_nil_of_length_eq_zero (by simpa using hl)
    have hus : us = [] := List.eq_nil_of_length_eq_zero (by simpa using hul)
    subst hys; subst hus
    refine ⟨_, w, M, run_app_none hty hi hlen hf (by omega), ?_⟩
    simp only [Nat.add_zero, List.append_nil]
    have hset : ∀ i, (h.set id (.sl cl true inf.size n cells)).get i = h.get i := fun i => by
      rw [get_set]; split
      · rename_i hh; subst hh; exact hg.symm
      · rfl
    have hx2 : Ext h M (h.set id (.sl cl true inf.size n cells)) M := fun i x hx => ⟨by rw [hset]; exact hx, rfl⟩
    refine ⟨⟨fun i x hx => (hk.row i x (by rwa [hset] at hx)).ext hx2 (by rwa [hset] at hx), fun i j x y b g1 g2 => hk.inj i j x y b (by rwa [hset] at g1) (by rwa [hset] at g2), hk.fb⟩, ?_, hu.ext hx2⟩
    exact ⟨rfl, rfl, rfl, Nat.le_refl _, fun _ _ _ => rfl, fun _ h => h, fun _ h _ => .inl h, fun i y hy hr => .inl ⟨y, by rwa [hset] at hy, hr, rfl⟩, fun i x hx _ => ⟨x, by rw [hset]; exact hx, Held.refl rfl fun _ _ => rfl⟩⟩
  · have hm0 : 0 < m := by omega
    by_cases hroom : n + m ≤ c
    · -- in place
      rcases hown with ⟨_, h2⟩ | ⟨b, S, hM, rfl, hS, hfit⟩
      · omega
      rcases hrow with ⟨_, h2⟩ | ⟨b', cur, et, hM', hb, hnF, _, hcx⟩
      · rw [hM] at h2; cases h2
      rw [hM] at hM'; injection hM' with hM'; subst hM'
      have hSc : S = cur.size := by simp [rowSize, hb] at hS; exact hS.symm
      have hfit' : n * inf.size + us.length ≤ cur.size := by
        rw [hul, ← Nat.add_mul]
        have := Nat.mul_le_mul_right inf.size hroom
        omega
      have hup := @upd_ok w (w.setRow b (cur.toList.take (n * inf.size) ++ us ++ cur.toList.drop (n * inf.size + us.length)).toArray) F h M hk id _ (.sl cl true inf.size (n + m) (cells ++ ys)) hg rfl rfl (M id) rfl rfl rfl
        (by rw [setRow_size]; exact Nat.le_refl _) (fun c' _ hne => setRow_other w b c' _ fun e => hne (e ▸ hM)) (.inl rfl)
      rw [updM_self] at hup
      have hrs : rowSize (w.setRow b (cur.toList.take (n * inf.size) ++ us ++ cur.toList.drop (n * inf.size + us.length)).toArray).heap b = rowSize w.heap b := setRow_rowSize hb (splice_size _ _ _ hfit')
      obtain ⟨r1, r2⟩ := hup ⟨(fun cl2 rw sz e cs h => by injection h with a1 a2 a3 a4 a5; subst a3; subst a4; exact ⟨_, _, _, _, rfl, Nat.le_add_right _ _⟩), Nat.le_add_right _ _, fun _ => ⟨rfl, fun c' hc' => by
          rw [hM] at hc'; injection hc' with hc'; subst hc'; exact hrs⟩⟩
        (fun hh hF => ⟨by rw [List.length_append, hcl, hl, Nat.add_mul], .inr ⟨b, _, et, hM, setRow_heap w b cur _ et (0, 0) hb, hnF, (fun h => by cases h), fun i x hx => by
          rw [splice_get _ _ _ hfit']
          by_cases hi2 : i < cells.length
          · rw [List.getElem?_append_left hi2] at hx
            rw [if_neg (by omega)]
            obtain ⟨u, a1, a2⟩ := hcx i x hx
            exact ⟨u, a1, hRk _ _ _ hh hF _ _ (hRo _ _ a2)⟩
          · rw [List.getElem?_append_right (by omega)] at hx
            have hlt := (List.getElem?_eq_some_iff.1 hx).1
            rw [if_pos (by have := hn.len; omega)]
            rw [hcl] at hx
            obtain ⟨u2, hq, hr2⟩ := all2_get hn.len hn.rel hx
            exact ⟨u2, hq, hRk _ _ _ hh hF _ _ hr2⟩⟩⟩)
      refine ⟨_, _, M, run_app_room hty hi hlen hf hroom hb hfit' hone, r1, r2, .own (get_set_same _ _ _) (by omega) (Nat.le_refl _) fun _ => ⟨?_, .inr ⟨b, S, hM, rfl, by rw [hrs]; exact hS, hfit⟩⟩⟩
      simp only [Nat.zero_add]
      exact Nat.mul_le_mul_right _ hroom
    · -- a new row
      have holds : ∃ olds : List Value, olds.length = n * inf.size ∧ (Builtin.firstCells inf.size n (.slice a n c)).run P w.drew = .ok olds.toArray w.drew ∧ ∀ (i : Nat) x u, cells[i]? = some x → olds[i]? = some u → R x u := by
        rcases Nat.eq_zero_or_pos n with hn0 | hn0
        · subst hn0
          refine ⟨[], by simp, ?_, fun i x u h1 h2 => by simp at h2⟩
          cases a with
          | none => simp [Builtin.firstCells]
          | some ad => exact run_firstCells_some (P := P) w.drew inf.size 0 ad 0 c [] (by simp) fun j v h => by simp at h
        · rcases hown with ⟨h2, _⟩ | ⟨b, S, hM, rfl, hS, hfit⟩
          · omega
          rcases hrow with ⟨_, h2⟩ | ⟨b', cur, et, hM', hb, hnF, _, hcx⟩
          · rw [hM] at h2; cases h2
          rw [hM] at hM'; injection hM' with hM'; subst hM'
          obtain ⟨p1, p2⟩ := cells_along_list (R := R) fun i x hx => let ⟨u, a1, a2⟩ := hcx i x hx; ⟨u, a1, hRo _ _ a2⟩
          refine ⟨cur.toList.take cells.length, by rw [p1, hcl], ?_, p2⟩
          refine run_firstCells_some (P := P) w.drew inf.size n _ n c _ (by rw [p1, hcl]) fun j v hj => ?_
          rw [addr_add, Nat.zero_add]
          rw [List.getElem?_take] at hj
          split at hj
          · rw [Array.getElem?_toList] at hj
            show w.cell? _ = _
            rw [cell_of hb]; exact hj
          · cases hj
      obtain ⟨olds, ho1, ho2, ho3⟩ := holds
      have hrun := run_app_grow (ty := ty) hty hi hzv hlen hfd ho2 (by omega) h47 hb47
      have hge := grownCap_ge w (n + m) c el
      generalize grownCap w (n + m) c el = cap at hrun hge
      have hol : (olds.toArray ++ us.toArray ++ Builtin.zeroCells zv.cells (cap - (n + m))).size = cap * inf.size := by
        simp only [Array.size_append, List.size_toArray, size_zeroCells, hzs, ho1, hul, ← Nat.add_mul]
        congr 1; omega
      have hcell : ∀ (i : Nat) x, (cells ++ ys)[i]? = some x → ∃ u, (olds.toArray ++ us.toArray ++ Builtin.zeroCells zv.cells (cap - (n + m)))[i]? = some u ∧ R x u := fun i x hx => by
        have hlt := (List.getElem?_eq_some_iff.1 hx).1
        have hnl := hn.len
        rw [List.length_append] at hlt
        have hpre : (olds.toArray ++ us.toArray ++ Builtin.zeroCells zv.cells (cap - (n + m)))[i]? = (olds ++ us)[i]? := by
          rw [Array.getElem?_append_left (by simp; omega)]
          simp
        rw [hpre]
        by_cases hi2 : i < cells.length
        · rw [List.getElem?_append_left hi2] at hx
          rw [List.getElem?_append_left (by omega)]
          have hq : olds[i]? = some (olds[i]'(by omega)) := List.getElem?_eq_getElem _
          exact ⟨_, hq, ho3 i x _ hx hq⟩
        · rw [List.getElem?_append_right (by omega)] at hx
          rw [List.getElem?_append_right (by omega)]
          obtain ⟨u2, hq, hr2⟩ := all2_get hn.len hn.rel hx
          exact ⟨u2, by rw [← hq]; congr 1; omega, hr2⟩
      generalize olds.toArray ++ us.toArray ++ Builtin.zeroCells zv.cells (cap - (n + m)) = row at hrun hol hcell
      have hold : ∀ b, b < w.heap.size → (w.drew.alloc (.cells row el)).heap[b]? = w.heap[b]? := fun b hb => heap_alloc_old w.drew _ hb
      have hnew : (w.drew.alloc (.cells row el)).heap[w.heap.size]? = some (.cells row el (0, 0)) := heap_alloc_new w.drew _
      have hsz : w.heap.size ≤ (w.drew.alloc (.cells row el)).heap.size := by
        have := (Array.getElem?_eq_some_iff.1 hnew).1; omega
      obtain ⟨r1, r2⟩ := @upd_ok w (w.drew.alloc (.cells row el)) F h M hk id _ (.sl cl true inf.size (n + m) (cells ++ ys)) hg rfl rfl (some w.heap.size) rfl rfl rfl hsz
        (fun b hb _ => hold b hb) (.inr ⟨_, rfl, Nat.le_refl _⟩)
        ⟨(fun cl2 rw sz e cs h => by injection h with a1 a2 a3 a4 a5; subst a3; subst a4; exact ⟨_, _, _, _, rfl, Nat.le_add_right _ _⟩), Nat.le_add_right _ _, fun he => by simp [Blk.ext] at he; omega⟩
        (fun hh hF => ⟨by rw [List.length_append, hcl, hl, Nat.add_mul], .inr ⟨w.heap.size, row, el, updM_same, hnew, (fun _ hF2 => by have := hk.fb _ hF2; omega), (fun h => by cases h), fun i x hx => by
          obtain ⟨u, a1, a2⟩ := hcell i x hx
          exact ⟨u, a1, hRk _ _ _ hh hF _ _ a2⟩⟩⟩)
      refine ⟨_, _, _, hrun, r1, r2, .own (get_set_same _ _ _) hge (Nat.le_refl _) fun _ => ⟨?_, .inr ⟨w.heap.size, row.size, updM_same, rfl, by unfold rowSize; rw [hnew], by rw [hol]; omega⟩⟩⟩
      simp only [Nat.zero_add]
      exact Nat.mul_le_mul_right _ hge
theorem append_own (hk : HOK w.heap F h M) {t el ty : TypeId} {esz by_ : Nat} (htv : tview P t = some (.slice el esz by_)) {z : List AV} (hz : tzero P el = some z) {id : Id} {n m : Nat} {cells ys : List AV} {us : List Value} {u v : Value}
    (hu : VR w.heap F h M (.own id 0 n n) u) (hg : h.get id = some (.sl true true esz n cells)) (hn : News P w F v m ys us) (hl : ys.length = m * esz) (h0 : 0 < esz) (h47 : n + m ≤ 2 ^ 47) (hb47 : (n + m) * by_ ≤ 2 ^ 47)
    (h1 : ys.all AV.one = true) (hzl : z.length = esz) : ∃ u' w' M', (Builtin.append_ #[t, t] ty #[u, v]).run P w = .ok u' w' ∧ HOK w'.heap F (h.set id (.sl true true esz (n + m) (cells ++ ys))) M' ∧
      Evo All w F h M w' F (h.set id (.sl true true esz (n + m) (cells ++ ys))) M' ∧ VR w'.heap F (h.set id (.sl true true esz (n + m) (cells ++ ys))) M' (.own id 0 (n + m) (n + m)) u' :=
  append_gen (cl := true) (R := VC w.heap F) (fun _ _ _ _ hF x u hv => ⟨fun _ => hv.keep (fun _ h => h) hF, fun h => Bool.noConfusion h⟩) (fun _ _ hv h1 => vc_one hv h1) (fun _ _ hv => hv.1 rfl) hk htv hz hu hg hn hl h0 h47 hb47 h1 hzl
theorem append_open (hk : HOK w.heap F h M) {t el ty : TypeId} {esz by_ : Nat} (htv : tview P t = some (.slice el esz by_)) {z : List AV} (hz : tzero P el = some z) {id idy : Id} {n m : Nat} {rwy : Bool} {cells ys : List AV} {u v : Value}
    (hu : VR w.heap F h M (.own id 0 n n) u) (hg : h.get id = some (.sl false true esz n cells)) (hv : VR w.heap F h M (.own idy 0 m m) v) (hgy : h.get idy = some (.sl false rwy esz m ys)) (h0 : 0 < esz) (h47 : n + m ≤ 2 ^ 47) (hb47 : (n + m) * by_ ≤ 2 ^ 47)
    (h1 : ys.all AV.one = true) (hzl : z.length = esz) : ∃ u' w' M', (Builtin.append_ #[t, t] ty #[u, v]).run P w = .ok u' w' ∧ HOK w'.heap F (h.set id (.sl false true esz (n + m) (cells ++ ys))) M' ∧
      Evo All w F h M w' F (h.set id (.sl false true esz (n + m) (cells ++ ys))) M' ∧ VR w'.heap F (h.set id (.sl false true esz (n + m) (cells ++ ys))) M' (.own id 0 (n + m) (n + m)) u' := by
  obtain ⟨a, c, cl', rw', sz', e', cells', rfl, hg', hnc, hle, ho⟩ := hv.own_inv
  rw [hgy] at hg'
  injection hg' with hg'
  injection hg' with _ _ q1 q2 q3
  subst q1; subst q2; subst q3
  obtain ⟨hcl, hrow⟩ := hk.row _ _ hgy
  obtain ⟨hx, hown⟩ := ho rfl
  have hn : ∃ us, NewsR P w (VR w.heap F h M) (.slice a m c) m ys us := by
    rcases hrow with ⟨h2, h3⟩ | ⟨b', cur, et, hM', hb, _, _, hcx⟩
    · subst h2
      have : ys = [] := List.eq_nil_of_length_eq_zero (by simpa using hcl)
      subst this
      exact ⟨[], rfl, ⟨a, c, rfl, fun h => by simp at h⟩, fun i y u h => by simp at h⟩
    · rcases hown with ⟨h2, _⟩ | ⟨b, S, hM, rfl, hS, hfit⟩
      · subst h2
        have : ys = [] := List.eq_nil_of_length_eq_zero (by simpa using hcl)
        subst this
        exact ⟨[], rfl, ⟨a, c, rfl, fun h => by simp at h⟩, fun i y u h => by simp at h⟩
      rw [hM] at hM'; injection hM' with hM'; subst hM'
      obtain ⟨p1, p2⟩ := cells_along_list (R := VR w.heap F h M) fun i x hx => let ⟨u, a1, _, a2⟩ := hcx i x hx; ⟨u, a1, a2 rfl⟩
      refine ⟨cur.toList.take ys.length, p1.symm, ⟨_, _, rfl, fun _ => ⟨b, 0, rfl, fun j u hj => ?_⟩⟩, p2⟩
      rw [Nat.zero_add, cell_of hb]
      rw [List.getElem?_take] at hj
      split at hj
      · rw [Array.getElem?_toList] at hj; exact hj
      · cases hj
  obtain ⟨us, hn⟩ := hn
  exact append_gen (cl := false) (R := VR w.heap F h M) (fun _ _ _ hh hF x u hv => ⟨fun h => Bool.noConfusion h, fun _ => hv.keep (fun _ h => h) hF hh⟩) (fun _ _ hv h1 => oneCell_of hv h1) (fun _ _ hv => hv.2 rfl) hk htv hz hu hg hn hcl h0 h47 hb47 h1 hzl
end
end Go.Av
