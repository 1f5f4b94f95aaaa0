/- From a place to where it stands in a smaller shape; ShapeBoth: the law over the plain functions. Conditions: those that each names. -/
import Derived.Test.YtoeineoiofjfdaaP07
set_option linter.unusedVariables false
namespace Go.Av
theorem zipB_comm : ∀ {a b : List Int}, a.length = b.length → zipB a b = zipB b a
  | [], [], _ => rfl
  | x :: a, d :: b, h => by
    have ih := zipB_comm (a := a) (b := b) (by simpa using h)
    simp only [zipB, ih]
    by_cases h1 : x = 1 <;> by_cases h2 : d = 1
    · subst h1 h2; rfl
    · subst h1; simp [h2]
    · subst h2; simp [h1]
    · by_cases h3 : d = x
      · subst h3; simp [h1]
      · have h4 : ¬ x = d := fun h => h3 h.symm
        simp [h1, h2, h3, h4]
theorem bc_comm {a b : List Int} : bc a b = bc b a := by
  unfold bc
  by_cases h1 : a.length < b.length
  · rw [if_pos h1, if_neg (by omega)]
  · rw [if_neg h1]
    by_cases h2 : b.length < a.length
    · rw [if_pos h2]
    · rw [if_neg h2]
      have hl : a.length = b.length := by omega
      unfold bc'
      rw [hl]
      simp [zipB_comm hl]
theorem zipB_self : ∀ {r : List Int}, zipB r r = some r
  | [] => rfl
  | x :: r => by
    simp only [zipB, zipB_self (r := r)]
    by_cases h : x = 1
    · simp [h]
    · simp [h]
/-- what two come to goes together with each of them -/
theorem zipB_right : ∀ {a b r : List Int}, a.length = b.length → zipB a b = some r → zipB r b = some r
  | [], [], r, _, h => by simp [zipB] at h; subst h; rfl
  | x :: a, d :: b, r, hl, h => by
    simp only [zipB] at h
    have hl' : a.length = b.length := by simpa using hl
    split at h
    · simp only [Option.map_eq_some_iff] at h
      obtain ⟨q, hq, rfl⟩ := h
      have ih := zipB_right hl' hq
      simp only [zipB, ih]
      by_cases h1 : d = 1 <;> simp [h1]
    · split at h
      · rename_i hx hd
        simp only [Option.map_eq_some_iff] at h
        obtain ⟨q, hq, rfl⟩ := h
        have ih := zipB_right hl' hq
        simp only [zipB, ih, if_neg hx, if_pos hd]
        rfl
      · cases h
theorem bc'_right {a b r : List Int} (hl : b.length ≤ a.length) (h : bc' a b = some r) : bc' r b = some r := by
  have hrl := bc'_length hl h
  unfold bc' at h ⊢
  simp only [Option.map_eq_some_iff] at h
  obtain ⟨q, hq, rfl⟩ := h
  have hda : (a.drop (a.length - b.length)).length = b.length := by simp; omega
  have hz := zipB_right hda hq
  rw [hrl]
  have hpl : (a.take (a.length - b.length)).length = a.length - b.length := by simp
  have e1 : (a.take (a.length - b.length) ++ q).drop (a.length - b.length) = q := by
    rw [List.drop_append_of_le_length (by omega), List.drop_of_length_le (by omega)]; rfl
  have e2 : (a.take (a.length - b.length) ++ q).take (a.length - b.length) = a.take (a.length - b.length) := by
    rw [List.take_append_of_le_length (by omega), List.take_of_length_le (by omega)]
  rw [e1, e2, hz]; rfl
theorem bc'_left {a b r : List Int} (hl : b.length ≤ a.length) (h : bc' a b = some r) : bc' r a = some r := by
  have hrl := bc'_length hl h
  unfold bc' at h ⊢
  simp only [Option.map_eq_some_iff] at h
  obtain ⟨q, hq, rfl⟩ := h
  have hda : (a.drop (a.length - b.length)).length = b.length := by simp; omega
  rw [zipB_comm hda] at hq
  have hz := zipB_right hda.symm hq
  rw [hrl, Nat.sub_self, List.drop_zero, List.take_zero]
  have key : ∀ (p q s : List Int), zipB q s = some q → zipB (p ++ q) (p ++ s) = some (p ++ q) := by
    intro p
    induction p with
    | nil => intro q s h; exact h
    | cons x p ih =>
      intro q s h
      simp only [List.cons_append, zipB, ih q s h]
      by_cases h1 : x = 1 <;> simp [h1]
  have := key (a.take (a.length - b.length)) q (a.drop (a.length - b.length)) hz
  rw [List.take_append_drop] at this
  rw [this]; rfl
theorem bc_left {a b r : List Int} (h : bc a b = some r) : bc r a = some r ∧ bc b r = some r ∧ bc r r = some r ∧ a.length ≤ r.length ∧ b.length ≤ r.length ∧ r.length = max a.length b.length := by
  have hrr : bc r r = some r := by simp [bc, bc', zipB_self]
  unfold bc at h
  by_cases hlt : a.length < b.length
  · rw [if_pos hlt] at h
    have hrl := bc'_length (by omega) h
    have h1 := bc'_right (by omega) h
    have h2 := bc'_left (by omega) h
    refine ⟨by unfold bc; rw [if_neg (by omega)]; exact h1, ?_, hrr, by omega, by omega, by omega⟩
    rw [bc_comm]
    unfold bc; rw [if_neg (by omega)]; exact h2
  · rw [if_neg hlt] at h
    have hrl := bc'_length (by omega) h
    have h1 := bc'_right (by omega) h
    have h2 := bc'_left (by omega) h
    refine ⟨by unfold bc; rw [if_neg (by omega)]; exact h2, ?_, hrr, by omega, by omega, by omega⟩
    rw [bc_comm]
    unfold bc; rw [if_neg (by omega)]; exact h1

/-- the place in the smaller shape -/
def fromS : List Int → List Int → Int
  | d :: l, x :: xs => (if d = 1 then 0 else x * prod l) + fromS l xs
  | _, _ => 0
def fromV (s l : List Int) (a : Int) : Int × Int :=
  if Good s then (if Good l then (if broadcastV s l = (l, 0) then (if 0 ≤ a ∧ a < prod l then (fromS s ((idxV l a).drop (l.length - s.length)), 0) else (0, 2)) else (0, 3)) else (0, errS l)) else (0, errS s)
/-- the smaller one's dims are 1 or those of the greater one -/
def dimsFit : List Int → List Int → Prop
  | d :: s, x :: l => (d = 1 ∨ d = x) ∧ dimsFit s l
  | _, _ => True
theorem zipB_fit : ∀ {a b : List Int}, a.length = b.length → zipB a b = some a → dimsFit b a
  | [], [], _, _ => trivial
  | x :: a, d :: b, hl, h => by
    simp only [zipB] at h
    have hl' : a.length = b.length := by simpa using hl
    split at h
    · rename_i hx
      simp only [Option.map_eq_some_iff] at h
      obtain ⟨q, hq, he⟩ := h
      injection he with h1 h2
      subst h2
      exact ⟨.inr h1, zipB_fit hl' hq⟩
    · split at h
      · rename_i hx hd
        simp only [Option.map_eq_some_iff] at h
        obtain ⟨q, hq, he⟩ := h
        injection he with h1 h2
        subst h2
        exact ⟨hd, zipB_fit hl' hq⟩
      · cases h
theorem bcast_fit {s l : List Int} (hs : Good s) (hlg : Good l) (h : broadcastV s l = (l, 0)) : s.length ≤ l.length ∧ bc s l = some l ∧ dimsFit s (l.drop (l.length - s.length)) := by
  simp only [broadcastV, if_pos hs, if_pos hlg] at h
  cases hb : bc s l with
  | none => rw [hb] at h; simp at h
  | some r =>
    rw [hb] at h
    simp only at h
    have hr : r = l := by
      split at h
      · exact (Prod.mk.inj h).1
      · exact absurd (Prod.mk.inj h).2 (errS_ne r)
    subst hr
    obtain ⟨h1, _, _, h4, _, _⟩ := bc_left hb
    refine ⟨h4, rfl, ?_⟩
    unfold bc at h1
    rw [if_neg (by omega)] at h1
    unfold bc' at h1
    simp only [Option.map_eq_some_iff] at h1
    obtain ⟨q, hq, he⟩ := h1
    have : q = r.drop (r.length - s.length) := by
      have := congrArg (List.drop (r.length - s.length)) he
      rwa [List.drop_append_of_le_length (by simp), List.drop_of_length_le (by simp), List.nil_append] at this
    rw [this] at hq
    exact zipB_fit (by simp; omega) hq
theorem okIx_drop : ∀ (k : Nat) {l xs : List Int}, okIx l xs = true → okIx (l.drop k) (xs.drop k) = true
  | 0, _, _, h => by simpa using h
  | k + 1, [], xs, h => by simp [okIx]
  | k + 1, _ :: _, [], h => by cases h' : (List.drop (k + 1) _ : List Int) <;> simp [okIx]
  | k + 1, d :: l, x :: xs, h => by
    simp only [okIx, Bool.and_eq_true] at h
    simpa using okIx_drop k h.2
theorem fit_drop : ∀ {s l : List Int} (hl : s.length = l.length), dimsFit s l → ∀ (k : Nat) (h : k < s.length), (s[k] = 1 ∨ s[k] = l[k]'(hl ▸ h))
  | d :: s, x :: l, hl, hf, 0, _ => hf.1
  | d :: s, x :: l, hl, hf, k + 1, h => by
    have := fit_drop (s := s) (l := l) (by simpa using hl) hf.2 k (by simpa using h)
    simpa using this
theorem okIx_get : ∀ {l xs : List Int} (hl : l.length = xs.length), okIx l xs = true → ∀ (k : Nat) (h : k < l.length), 0 ≤ xs[k]'(hl ▸ h) ∧ xs[k]'(hl ▸ h) < l[k]
  | d :: l, x :: xs, hl, ho, 0, _ => by
    simp only [okIx, Bool.and_eq_true, decide_eq_true_eq] at ho
    exact ho.1
  | d :: l, x :: xs, hl, ho, k + 1, h => by
    simp only [okIx, Bool.and_eq_true] at ho
    have := okIx_get (l := l) (xs := xs) (by simpa using hl) ho.2 k (by simpa using h)
    simpa using this
theorem FromW_spec {fu : Nat} {s l : List Int} {a : Int} (hs : Good s) (hlg : Good l) (hls : s.length ≤ l.length) (hfit : dimsFit s (l.drop (l.length - s.length))) (h0 : 0 ≤ a) (h1 : a < prod l) (hf : 9 < fu) (e : Int) :
    shape_From_W1 fu s l (idxV l a, e) (strdW s) 0 0 = some (fromS s ((idxV l a).drop (l.length - s.length)), 0) := by
  have hL := hlg.1
  have hS := hs.1
  have hP := hs.2.2
  have hn : prod l ≠ 0 := by omega
  have hok := okIx_drop (l.length - s.length) (okIx_idx (pos_of_good hlg hn) h0 h1)
  have hil := idxV_length l a
  have hw : wk .i64 ((l.length : Int) - (s.length : Int)) = ((l.length - s.length : Nat) : Int) := by rw [wk_eq (by omega) (by omega)]; omega
  unfold shape_From_W1
  generalize hA : l.length - s.length = A at hw hok hfit ⊢
  generalize hx : (idxV l a).drop A = xs at hok ⊢
  have hxl : xs.length = s.length := by rw [← hx]; simp [hil]; omega
  have hdl : (l.drop A).length = s.length := by simp; omega
  have hsub : subN (idxV l a) (A : Int).toNat (idxV l a).length = xs := by
    simp only [subN, Int.toNat_natCast, hx, hil]
    rw [List.take_of_length_le (by omega)]
  refine (cloop_ind (fun (t : Int × Int) => some (t.1 + fromS (s.drop t.2.toNat) (xs.drop t.2.toNat), (0 : Int))) (fun t => 0 ≤ t.2 ∧ t.2 ≤ s.length ∧ 0 ≤ t.1 ∧ t.1 + prod (s.drop t.2.toNat) ≤ 4096) (fun t => s.length - t.2.toNat) ?_ fu (0, 0) ⟨by simp, by simp, by simp, by simpa using hP⟩ (by simp; omega)).trans (by simp)
  rintro ⟨o, i⟩ ⟨q0, q1, q2, q3⟩ next hnx
  simp only at q0 q1 q2 q3 hnx ⊢
  obtain ⟨k, rfl⟩ := Int.eq_ofNat_of_zero_le q0
  unfold shape_From_L1
  simp only [Int.toNat_natCast, strdW_length, hw] at q3 ⊢
  by_cases hk : k < s.length
  · have hkx : k < xs.length := by omega
    have hsub2 : subN (idxV l a) A (idxV l a).length = xs := by simpa using hsub
    rw [if_pos (by omega), at?_nat, strdW_get hk, ob_some, at?_get hk, ob_some]
    rw [List.drop_eq_getElem_cons hk] at q3
    simp only [prod] at q3
    rw [List.drop_eq_getElem_cons hk, List.drop_eq_getElem_cons hkx]
    simp only [fromS]
    have hpn : 0 ≤ prod (s.drop (k + 1)) := prod_nonneg fun x hx => hs.2.1 x (List.mem_of_mem_drop hx)
    by_cases hd : s[k] = 1
    · rw [if_pos hd, if_pos hd, wk_succ (by omega)]
      rw [hd, Int.one_mul] at q3
      rw [hnx (o, ((k + 1 : Nat) : Int)) ⟨by simp only []; omega, by simp only []; omega, q2, by simpa using q3⟩ (by simp; omega)]
      simp
    · rw [if_neg hd, if_neg hd, hsub2, at?_get hkx, ob_some]
      have hfk := (fit_drop hdl.symm hfit k hk).resolve_left hd
      obtain ⟨r1, r2⟩ := okIx_get (by omega) hok k (by omega)
      rw [← hfk] at r2
      have m1 : (xs[k] + 1) * prod (s.drop (k + 1)) ≤ s[k] * prod (s.drop (k + 1)) := Int.mul_le_mul_of_nonneg_right (by omega) hpn
      rw [Int.add_mul, Int.one_mul] at m1
      have m2 : 0 ≤ xs[k] * prod (s.drop (k + 1)) := Int.mul_nonneg r1 hpn
      rw [wk_eq (x := prod (s.drop (k + 1))) (by omega) (by omega), wk_eq (x := xs[k] * prod (s.drop (k + 1))) (by omega) (by omega), wk_eq (by omega) (by omega), wk_succ (by omega)]
      rw [hnx (_, ((k + 1 : Nat) : Int)) ⟨by simp only []; omega, by simp only []; omega, by simp only []; omega, by simp only [Int.toNat_natCast]; omega⟩ (by simp; omega)]
      simp only [Int.toNat_natCast, Int.add_assoc]
  · rw [if_neg (by omega), List.drop_of_length_le (by omega), List.drop_of_length_le (by omega)]
    simp [fromS]
theorem From_spec {fu : Nat} {s l : List Int} {a : Int} (hs : Short s) (hl : Short l) (hfs : s.length < fu) (hfl : l.length < fu) (hf : 9 < fu) : shape_From fu s l a = some (fromV s l a) := by
  unfold shape_From shape_From_k1
  rw [Size_spec hs hfs, ob_some, Size_spec hl hfl, ob_some, Broadcast_spec hs hl hfs hfl hf, ob_some]
  simp only [sizeV, fromV]
  by_cases gs : Good s
  · simp only [if_pos gs, if_true]
    by_cases gl : Good l
    · simp only [if_pos gl, if_true]
      by_cases he : (broadcastV s l).2 = 0
      · rw [if_pos he]
        have hsh : Short (broadcastV s l).1 := by
          simp only [broadcastV, if_pos gs, if_pos gl]
          have := gs.1; have := gl.1
          cases hb : bc s l with
          | none => simp [Short]
          | some r =>
            obtain ⟨_, _, _, _, _, h6⟩ := bc_left hb
            simp only
            split <;> simp [Short]; omega
        have hfl2 : (broadcastV s l).1.length < fu := by
          simp only [broadcastV, if_pos gs, if_pos gl]
          have := gs.1; have := gl.1
          cases hb : bc s l with
          | none => simp; omega
          | some r =>
            obtain ⟨_, _, _, _, _, h6⟩ := bc_left hb
            simp only
            split <;> simp <;> omega
        rw [Equal_spec hsh hfl2, ob_some]
        by_cases heq : (broadcastV s l).1 = l
        · have hbv : broadcastV s l = (l, 0) := Prod.ext heq he
          rw [if_pos (by simpa using heq), if_pos hbv, Index_spec hl hfl, ob_some]
          simp only [indexV, if_pos gl]
          by_cases hr : 0 ≤ a ∧ a < prod l
          · simp only [if_pos hr, if_true]
            obtain ⟨f1, _, f3⟩ := bcast_fit gs gl hbv
            have := gl.1
            have hw : wk .i64 ((l.length : Int) - (s.length : Int)) = ((l.length - s.length : Nat) : Int) := by rw [wk_eq (by omega) (by omega)]; omega
            rw [hw, chk_pos (by rw [idxV_length]; omega), strides_spec (good_short gs) hfs, ob_some, FromW_spec gs gl f1 f3 hr.1 hr.2 hf]
          · simp only [if_neg hr]
            rfl
        · rw [if_neg (by simpa using heq), if_neg (fun h => heq (by rw [h]))]
      · rw [if_neg he, if_neg (fun h => he (by rw [h]))]
    · simp only [if_neg gl]
      rw [if_neg (errS_ne l)]
  · simp only [if_neg gs]
    rw [if_neg (errS_ne s)]
end Go.Av
