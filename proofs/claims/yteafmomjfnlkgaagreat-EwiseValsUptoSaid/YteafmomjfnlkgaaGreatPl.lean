/- Plain lemmas on the plain functions' words: loops, places, wrapped numbers. Conditions: those that each names. -/
import Derived.Test.YteafmomjfnlkgaaGreatMo
set_option linter.unusedVariables false
namespace Go.Av
theorem chk_pos {β : Type} {c : Prop} [Decidable c] {s : Option β} (h : c) : chk c s = s := if_pos h
theorem at?_nat {α : Type} {l : List α} {i : Nat} : at? l (i : Int) = l[i]? := by simp [at?]
theorem at?_get {α : Type} {l : List α} {i : Nat} (h : i < l.length) : at? l (i : Int) = some l[i] := by rw [at?_nat, List.getElem?_eq_getElem h]
theorem cloop_ind {σ β : Type} {body : (σ → Option β) → σ → Option β} (spec : σ → Option β) (I : σ → Prop) (μ : σ → Nat)
    (h : ∀ s, I s → ∀ next, (∀ s', I s' → μ s' < μ s → next s' = spec s') → body next s = spec s) : ∀ n s, I s → μ s < n → cloop body n s = spec s := by
  intro n
  induction n with
  | zero => intro s _ h; omega
  | succ n ih => intro s hI hn; exact h s hI _ fun s' hI' hm => ih s' hI' (by omega)
theorem cloop_up {σ β : Type} {body : (σ × Int → Option β) → σ × Int → Option β} (N : Nat) (st : Nat → σ) (r : Option β) (h : ∀ k, k < N → ∀ next, next (st (k + 1), ((k + 1 : Nat) : Int)) = r → body next (st k, (k : Int)) = r)
    (he : ∀ next, body next (st N, (N : Int)) = r) {n : Nat} (hn : N < n) : cloop body n (st 0, 0) = r := by
  have : ∀ m k, k ≤ N → N - k < m → cloop body m (st k, (k : Int)) = r := by
    intro m
    induction m with
    | zero => intro k _ h; omega
    | succ m ih =>
      intro k hk hm
      by_cases hkN : k = N
      · subst hkN; exact he _
      · exact h k (by omega) _ (ih (k + 1) (by omega) (by omega))
  exact this n 0 (by omega) (by omega)
theorem wk_eq {x : Int} (h1 : -9223372036854775808 ≤ x) (h2 : x < 9223372036854775808) : wk .i64 x = x := wk_i64 h1 h2
end Go.Av
