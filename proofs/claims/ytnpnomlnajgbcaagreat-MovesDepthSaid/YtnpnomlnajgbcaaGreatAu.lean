/- Walks that go by themselves: states where ways meet are told as changes of the state ahead. Conditions: those that each names. -/
import Derived.Test.YtnpnomlnajgbcaaGreatLt
set_option linter.unusedVariables false
set_option linter.defProp false
namespace Go.Av
/-- marks in a plain function: here ways meet; here a call is stepped through whose ways meet behind it -/
def jn {ρ τ β : Type} (i : Nat) (r : ρ) (k : τ → Option β) (s : Option β) : Option β := s
def jc {ρ τ β : Type} (i : Nat) (r : ρ) (k : τ → Option β) (s : Option β) : Option β := s
theorem jn_at {ρ τ β : Type} {i : Nat} {r : ρ} {k : τ → Option β} {s : Option β} : jn i r k s = s := rfl
theorem jc_at {ρ τ β : Type} {i : Nat} {r : ρ} {k : τ → Option β} {s : Option β} : jc i r k s = s := rfl
/-- one of two operators: the plain function is split, the machine does nothing -/
def spl {β : Type} (c : Prop) [Decidable c] (a b : Option β) : Option β := if c then a else b
structure LJ (i m : Nat) (ρ τ : Type) where
  u : ρ → τ → Env → Env
  v : ρ → τ → Heap → Heap
structure LC (i : Nat) (ρ τ : Type) where
  u : ρ → τ → AV
  v : ρ → τ → Heap → Heap
def er : Env → Nat → AV
  | [], _ => .v undef
  | (j, x) :: e, k => if j = k then x else er e k
def hr : Heap → Id → Blk
  | [], _ => .bx false []
  | (j, x) :: h, k => if j = k then x else hr h k
def bs : Blk → Nat → AV → Blk
  | .sl a b s n c, i, x => .sl a b s n (c.set i x)
  | .bx r c, i, x => .bx r (c.set i x)
def hx (h : Heap) (k : Id) : Nat := (hr h k).ext
section
variable {β : Type} {m m' : Option AV} {s s' s1 s2 : Option β} {enc : β → AV}
theorem J.hd (h : s = s') (j : J m s' enc) : J m s enc := by subst h; exact j
theorem J.spl {c : Prop} [Decidable c] (a : c → J m s1 enc) (b : ¬ c → J m s2 enc) : J m (spl c s1 s2) enc := J.ite a b
variable {P : Program} {C : Cfg} {cp : CallP} {ci : CallI} {lvl : Nat} {prot : List Id} {D : List (Nat × List Nat)} {n : Nat} {K : KK}
variable {e : Env} {h : Heap} {fs : List Fr} {a b c : Code}
end
/-! contracts in a list -/
structure Ct (P : Program) where
  f : FuncId
  c : List AV → Option AV
  ok : ∀ args r, c args = Option.some r → PureOK P f args r
section
variable {P : Program}
structure Cm (P : Program) (α β : Type) where
  f : FuncId
  ea : α → List AV
  F : α → Option β
  e : β → AV
  ok : ∀ a b, F a = some b → PureOK P f (ea a) (e b)
  inj : Inj ea
noncomputable def Cm.ct {α β : Type} (c : Cm P α β) : Ct P := ⟨c.f, mkC c.ea c.F c.e, mkC_ok c.ok⟩
def Hit (cp : CallP) (c : Ct P) : Prop := ∀ args r, c.c args = Option.some r → cp c.f args = Option.some r
theorem Cm.at {α β : Type} (c : Cm P α β) {cp : CallP} (H : Hit cp c.ct) (a : α) (b : β) (h : c.F a = some b) : cp c.f (c.ea a) = some (c.e b) := H _ _ (mkC_at c.inj h)
variable {β : Type} {s : Option β} {enc : β → AV} {D : List (Nat × List Nat)} {n : Nat}
end
end Go.Av
