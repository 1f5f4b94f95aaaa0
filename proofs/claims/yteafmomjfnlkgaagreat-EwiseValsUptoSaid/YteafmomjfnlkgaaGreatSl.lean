/- A result whose rows are not written any more. Conditions: those that each names. -/
import Derived.Test.YteafmomjfnlkgaaGreatMi
set_option linter.unusedVariables false
set_option linter.defProp false
namespace Go.Av
def sealR : Nat → AV → Option AV
  | _, .v x => some (.v x)
  | _, .arr n xs => some (.arr n xs)
  | _, .fresh _ n xs => if n = 0 ∧ xs.isEmpty = true then some (.arr 0 []) else some (.arr n xs)
  | d + 1, .agg xs => (optL (sealR d) xs).bind fun ys => some (.agg ys)
  | d + 1, .tuple xs => (optL (sealR d) xs).bind fun ys => some (.tuple ys)
  | _, _ => none
theorem optL_get {α β : Type} {f : α → Option β} : ∀ {xs : List α} {ys : List β}, optL f xs = some ys → xs.length = ys.length ∧ ∀ (i : Nat) y, ys[i]? = some y → ∃ x, xs[i]? = some x ∧ f x = some y
  | [], ys, h => by simp only [optL, Option.some.injEq] at h; subst h; exact ⟨rfl, fun i y h => by simp at h⟩
  | x :: xs, ys, h => by
    simp only [optL, Option.bind_eq_some_iff, Option.some.injEq] at h
    obtain ⟨y, hy, zs, hz, rfl⟩ := h
    obtain ⟨h1, h2⟩ := optL_get hz
    refine ⟨by simp [h1], fun i z hi => ?_⟩
    cases i with
    | zero => simp only [List.getElem?_cons_zero, Option.some.injEq] at hi; subst hi; exact ⟨x, by simp, hy⟩
    | succ i => obtain ⟨w, a, b⟩ := h2 i z (by simpa using hi); exact ⟨w, by simpa using a, b⟩
theorem seal_vc {H : Array Obj} {F : Nat → Prop} : ∀ d x u y, VC H F x u → sealR d x = some y → VC H F y u := by
  intro d
  induction d with
  | zero =>
    intro x u y hv e
    cases hv <;> simp [sealR] at e <;> subst e
    · exact .v
    · exact .arr0
    · rename_i hc hF hr hl hx; exact .arr hc hF hr hl hx
  | succ d ih =>
    intro x u y hv e
    cases hv with
    | v => simp only [sealR, Option.some.injEq] at e; subst e; exact .v
    | arr0 => simp only [sealR, Option.some.injEq] at e; subst e; exact .arr0
    | arr hc hF hr hl hx => simp only [sealR, Option.some.injEq] at e; subst e; exact .arr hc hF hr hl hx
    | ref => simp [sealR] at e
    | fn => simp [sealR] at e
    | agg hl hx =>
      simp only [sealR, Option.bind_eq_some_iff, Option.some.injEq] at e
      obtain ⟨ys, hys, rfl⟩ := e
      obtain ⟨a, b⟩ := optL_get hys
      exact .agg (by omega) fun i y u hy hu => let ⟨x, h1, h2⟩ := b i y hy; ih x u y (hx i x u h1 hu) h2
    | tuple hl hx =>
      simp only [sealR, Option.bind_eq_some_iff, Option.some.injEq] at e
      obtain ⟨ys, hys, rfl⟩ := e
      obtain ⟨a, b⟩ := optL_get hys
      exact .tuple (by omega) fun i y u hy hu => let ⟨x, h1, h2⟩ := b i y hy; ih x u y (hx i x u h1 hu) h2
theorem seal_tr {H : Array Obj} {F F' : Nat → Prop} (hF : ∀ b, F b → F' b) : ∀ d x u bs y, TR H (VC H F) (VC H F) x u bs → (∀ b ∈ bs, F' b) → sealR d x = some y → VC H F' y u := by
  intro d
  have fr : ∀ {sz n : Nat} {xs : List AV} {u : Value} {bs : List Nat} {y : AV}, TR H (VC H F) (VC H F) (.fresh sz n xs) u bs → (∀ b ∈ bs, F' b) → (if n = 0 ∧ xs.isEmpty = true then some (AV.arr 0 []) else some (.arr n xs)) = some y → VC H F' y u := fun {sz n xs u bs y} h hb e => by
    cases h with
    | base h => cases h
    | nil => rw [if_pos ⟨rfl, rfl⟩] at e; injection e with e; subst e; exact .arr0
    | @fresh _ _ _ b cur e' c hc1 hc hs hl hx =>
      by_cases h0 : n = 0 ∧ xs.isEmpty = true
      · rw [if_pos h0] at e; injection e with e; subst e
        obtain ⟨rfl, _⟩ := h0
        exact .arr0
      · rw [if_neg h0] at e; injection e with e; subst e
        have hn : n * sz ≤ c * sz := Nat.mul_le_mul_right _ hc
        refine .arr (us := cur.toList.take (n * sz)) hc (hb b (by simp)) ⟨cur, e', (0, 0), hc1, fun i u hi => ?_⟩ (by rw [List.length_take]; simp; omega) fun i x u hxi hui => ?_
        · rw [List.getElem?_take] at hi
          split at hi
          · simpa using hi
          · cases hi
        · obtain ⟨v, h1, h2⟩ := hx i x hxi
          rw [List.getElem?_take] at hui
          split at hui
          · have : cur[i]? = some u := by simpa using hui
            rw [this] at h1
            injection h1 with h1
            subst h1
            exact h2.grow hF
          · cases hui
  have lst : ∀ {d : Nat}, (∀ x u bs y, TR H (VC H F) (VC H F) x u bs → (∀ b ∈ bs, F' b) → sealR d x = some y → VC H F' y u) → ∀ {xs : List AV} {us : List Value} {bs : List Nat} {ys : List AV}, TRL H (VC H F) (VC H F) xs us bs → (∀ b ∈ bs, F' b) → optL (sealR d) xs = some ys →
      ys.length = us.length ∧ ∀ (i : Nat) y u, ys[i]? = some y → us[i]? = some u → VC H F' y u := fun {d} ih xs => by
    induction xs with
    | nil => intro us bs ys h hb e; cases h; simp only [optL, Option.some.injEq] at e; subst e; exact ⟨rfl, fun i y u h => by simp at h⟩
    | cons x xs ihx =>
      intro us bs ys h hb e
      cases h with
      | cons h1 h2 =>
        simp only [optL, Option.bind_eq_some_iff, Option.some.injEq] at e
        obtain ⟨y, hy, zs, hz, rfl⟩ := e
        obtain ⟨a, b⟩ := ihx h2 (fun b hb' => hb b (by simp [hb'])) hz
        refine ⟨by simp [a], fun i y' u' hi hu => ?_⟩
        cases i with
        | zero =>
          simp only [List.getElem?_cons_zero, Option.some.injEq] at hi hu
          subst hi; subst hu
          exact ih _ _ _ _ h1 (fun b hb' => hb b (by simp [hb'])) hy
        | succ i => exact b i y' u' (by simpa using hi) (by simpa using hu)
  induction d with
  | zero =>
    intro x u bs y h hb e
    cases x with
    | v x => cases h with | base h => exact seal_vc 0 _ _ _ (h.grow hF) e
    | arr n xs => cases h with | base h => exact seal_vc 0 _ _ _ (h.grow hF) e
    | fresh sz n xs => simp only [sealR] at e; exact fr h hb e
    | _ => simp [sealR] at e
  | succ d ih =>
    intro x u bs y h hb e
    cases x with
    | v x => cases h with | base h => exact seal_vc (d + 1) _ _ _ (h.grow hF) e
    | arr n xs => cases h with | base h => exact seal_vc (d + 1) _ _ _ (h.grow hF) e
    | fresh sz n xs => simp only [sealR] at e; exact fr h hb e
    | agg xs =>
      cases h with
      | base h => exact seal_vc (d + 1) _ _ _ (h.grow hF) e
      | agg hx =>
        simp only [sealR, Option.bind_eq_some_iff, Option.some.injEq] at e
        obtain ⟨ys, hys, rfl⟩ := e
        obtain ⟨a, b⟩ := lst ih hx hb hys
        exact .agg a b
    | tuple xs =>
      cases h with
      | base h => exact seal_vc (d + 1) _ _ _ (h.grow hF) e
      | tuple hx =>
        simp only [sealR, Option.bind_eq_some_iff, Option.some.injEq] at e
        obtain ⟨ys, hys, rfl⟩ := e
        obtain ⟨a, b⟩ := lst ih hx hb hys
        exact .tuple a b
    | _ => simp [sealR] at e
theorem PureOK.sealed {P : Program} {f : FuncId} {args : List AV} {r y : AV} (h : PureOK P f args r) (hs : sealR 4 r = some y) : PureOK P f args y := by
  refine ⟨h.1, fun w F us hF hl hx => (h.2 w F us hF hl hx).mono ?_⟩
  rintro e w' ⟨u, F', bs, he, hg, f1, f2, f3, ht, hnd, hb⟩
  refine ⟨u, fun b => F' b ∨ b ∈ bs, [], he, hg, fun b hF => .inl (f1 b hF), fun b hF => hF.elim (f2 b) fun h => (hb b h).2.1, fun b hF hlt => hF.elim (fun h => f3 b h hlt) fun h => ?_, .base (seal_tr (fun b h => .inl h) 4 r u bs y ht (fun b h => .inr h) hs), .nil, fun b h => by cases h⟩
  have := (hb b h).1
  omega
section
variable {P : Program} {C : Cfg} {cp : CallP} {ci : CallI} {n d : Nat} {D : List (Nat × List Nat)} {e : Env} {h : Heap} {α β : Type} {s : Option β} {enc : β → AV}
def finS (P : Program) (rs : List ResultVar) (ts : List TypeId) : KK := fun y e h => match y with
  | .exit _ => none
  | _ => (finX P ⟨.skip, rs, ts⟩ e h).bind (sealR 4)
theorem finS_ret {rs ts} : finS P rs ts .ret e h = (finX P ⟨.skip, rs, ts⟩ e h).bind (sealR 4) := rfl
theorem finS_normal {rs ts} : finS P rs ts .normal e h = (finX P ⟨.skip, rs, ts⟩ e h).bind (sealR 4) := rfl
theorem se_v {x} : sealR d (.v x) = some (.v x) := by cases d <;> rfl
theorem se_arr {m xs} : sealR d (.arr m xs) = some (.arr m xs) := by cases d <;> rfl
theorem se_lm {f : α → AV} {sz : Nat} {l : List α} : sealR d (.fresh sz l.length (lm f l)) = some (.arr l.length (lm f l)) := by
  cases l with
  | nil => cases d <;> rfl
  | cons x l => cases d <;> simp [sealR]
theorem se_fm {c : α → List AV} {sz : Nat} {l : List α} : sealR d (.fresh sz l.length (fm c l)) = some (.arr l.length (fm c l)) := by
  cases l with
  | nil => cases d <;> rfl
  | cons x l => cases d <;> simp [sealR]
theorem se_nil {sz : Nat} : sealR d (.fresh sz 0 []) = some (.arr 0 []) := by cases d <;> rfl
theorem se_cons {sz m : Nat} {x : AV} {xs : List AV} : sealR d (.fresh sz m (x :: xs)) = some (.arr m (x :: xs)) := by cases d <;> simp [sealR]
theorem se_agg {xs} : sealR (d + 1) (.agg xs) = (optL (sealR d) xs).bind fun ys => some (.agg ys) := rfl
theorem se_tuple {xs} : sealR (d + 1) (.tuple xs) = (optL (sealR d) xs).bind fun ys => some (.tuple ys) := rfl
def SE := And.intro @finS_ret <| And.intro @finS_normal <| And.intro @se_v <| And.intro @se_arr <| And.intro @se_lm <| And.intro @se_fm <| And.intro @se_nil <| And.intro @se_cons <| And.intro @se_agg <| @se_tuple
theorem pureS_J (hm : P.follows .mixedOrders = true) (hcp : CpOK P cp) (hci : CiOK P ci) {f : FuncId} {i : FInfo} (hi : finfo P f D = some i) {args : List AV}
    (j : J (go P C cp ci 0 [] D n (finS P i.results i.types) i.code (initE 0 args) [] []) s enc) {b : β} (hb : s = some b) : PureOK P f args (enc b) := by
  have := j b hb
  unfold go at this
  cases hx : exec P C cp ci 0 [] D n i.code (initE 0 args) [] with
  | none => rw [hx] at this; cases this
  | some r =>
    rw [hx] at this
    rcases r with ⟨y, e, h⟩
    have hy : (finX P ⟨.skip, i.results, i.types⟩ e h).bind (sealR 4) = some (enc b) := by cases y <;> first | exact this | cases this
    obtain ⟨r0, h0, h1⟩ := Option.bind_eq_some_iff.1 hy
    refine (bodyP_ok hm (C := C) hcp hci (n := n) hi (r := r0) ?_).sealed h1
    unfold bodyP
    rw [hx]
    cases y <;> first | exact h0 | cases this
end
end Go.Av
