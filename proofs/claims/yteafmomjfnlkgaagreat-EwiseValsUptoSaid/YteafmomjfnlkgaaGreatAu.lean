/- Walks that go by themselves: states where ways meet are told as changes of the state ahead. Conditions: those that each names. -/
import Derived.Test.YteafmomjfnlkgaaGreatLt
set_option linter.unusedVariables false
set_option linter.defProp false
namespace Go.Av
def jn {ρ τ β : Type} (i : Nat) (r : ρ) (k : τ → Option β) (s : Option β) : Option β := s
def jc {ρ τ β : Type} (i : Nat) (r : ρ) (k : τ → Option β) (s : Option β) : Option β := s
theorem jn_at {ρ τ β : Type} {i : Nat} {r : ρ} {k : τ → Option β} {s : Option β} : jn i r k s = s := rfl
def spl {β : Type} (c : Prop) [Decidable c] (a b : Option β) : Option β := if c then a else b
structure LJ (i m : Nat) (ρ τ : Type) where
  u : ρ → τ → Env → Env
  v : ρ → τ → Heap → Heap
structure LC (i : Nat) (ρ τ : Type) where
  u : ρ → τ → AV
  v : ρ → τ → Heap → Heap
def er : Env → Nat → AV
  | [], _ => .v undef
  | (j, x) :: e, k => if j = k then x else er e k
def hr : Heap → Id → Blk
  | [], _ => .bx false []
  | (j, x) :: h, k => if j = k then x else hr h k
def bs : Blk → Nat → AV → Blk
  | .sl a b s n c, i, x => .sl a b s n (c.set i x)
  | .bx r c, i, x => .bx r (c.set i x)
def hx (h : Heap) (k : Id) : Nat := (hr h k).ext
theorem er_cons {j k : Nat} {x : AV} {e : Env} : er ((j, x) :: e) k = if j = k then x else er e k := rfl
theorem hr_cons {j k : Id} {x : Blk} {h : Heap} : hr ((j, x) :: h) k = if j = k then x else hr h k := rfl
theorem bs_bx {r c i x} : bs (.bx r c) i x = .bx r (c.set i x) := rfl
theorem bs_sl {a b s n c i x} : bs (.sl a b s n c) i x = .sl a b s n (c.set i x) := rfl
theorem hx_at {h : Heap} {k : Id} : hx h k = (hr h k).ext := rfl
theorem ext_sl {a b s n c} : (Blk.sl a b s n c).ext = n := rfl
theorem opnd_np {e : Nat → Option AV} : opnd e (.const (.pointer none)) = some (.v (.pointer none)) := rfl
theorem qo_np {d lvl : Nat} {h : Heap} : qo lvl d h (some (.v (.pointer none))) = some (.v (.pointer none), h) := rfl
def RU := And.intro @opnd_np <| And.intro @qo_np <| And.intro @er_cons <| And.intro @hr_cons <| And.intro @bs_bx <| And.intro @bs_sl <| And.intro @hx_at <| @ext_sl
def cid : Code → Nat
  | .region i _ _ => 2 * i
  | .block i _ => 2 * i + 1
  | .seq a _ => cid a
  | .loop c => cid c
  | .scope c => cid c
  | .cond _ a b => cid a + cid b
  | _ => 0
section
variable {β : Type} {m m' : Option AV} {s s' s1 s2 : Option β} {enc : β → AV}
theorem J.hd (h : s = s') (j : J m s' enc) : J m s enc := by subst h; exact j
theorem J.atI {l : List Int} {i : Int} {k : Int → Option β} (a : ∀ r, 0 ≤ i → i < l.length → l[i.toNat]? = Option.some r → (∀ q, (lm (ik q) l)[i.toNat]? = Option.some (.v (.int q r))) → J m (k r) enc) : J m ((at? l i).bind k) enc :=
  J.at fun r h0 h1 h2 => a r h0 h1 h2 fun _ => lm_ik h2
theorem J.atB {l : List Bool} {i : Int} {k : Bool → Option β} (a : ∀ r, 0 ≤ i → i < l.length → l[i.toNat]? = Option.some r → (lm bk l)[i.toNat]? = Option.some (.v (.bool r)) → J m (k r) enc) : J m ((at? l i).bind k) enc :=
  J.at fun r h0 h1 h2 => a r h0 h1 h2 (lm_bk h2)
theorem J.atL {l : List (List Int)} {i : Int} {k : List Int → Option β} (a : ∀ r, 0 ≤ i → i < l.length → l[i.toNat]? = Option.some r → (∀ q, (lm (avl (ik q)) l)[i.toNat]? = Option.some (.arr r.length (lm (ik q) r))) → J m (k r) enc) : J m ((at? l i).bind k) enc :=
  J.at fun r h0 h1 h2 => a r h0 h1 h2 fun _ => lm_avl h2
theorem J.atM {α : Type} {c : α → List AV} {l : List (List α)} {i : Int} {k : List α → Option β} (a : ∀ r, 0 ≤ i → i < l.length → l[i.toNat]? = Option.some r → (lm (avf c) l)[i.toNat]? = Option.some (.arr r.length (fm c r)) → J m (k r) enc) : J m ((at? l i).bind k) enc :=
  J.at fun r h0 h1 h2 => a r h0 h1 h2 (lm_avf h2)
theorem fm_any {α : Type} {c : α → List AV} {w i : Nat} (hw : ∀ x, (c x).length = w) {l : List α} {x : α} (h : l[i]? = Option.some x) (p : Nat) (h1 : i * w ≤ p) (h2 : p < i * w + w) : (fm c l)[p]? = (c x)[p - i * w]? := by
  have := fm_at (j := p - i * w) hw h (by omega)
  rw [show i * w + (p - i * w) = p by omega] at this
  exact this
theorem J.atS {α : Type} {c : α → List AV} {w : Nat} (hw : ∀ x, (c x).length = w) {l : List α} {i : Int} {k : α → Option β}
    (a : ∀ r, 0 ≤ i → i < l.length → l[i.toNat]? = Option.some r → (((fm c l).drop (i.toNat * w)).take w = c r ∧ (i.toNat * w + w ≤ (fm c l).length) = True ∧ (∀ j, j < w → (fm c l)[i.toNat * w + j]? = (c r)[j]?) ∧ (0 < w → (fm c l)[i.toNat * w]? = (c r)[0]?)) → J m (k r) enc) : J m ((at? l i).bind k) enc :=
  J.at fun r h0 h1 h2 => a r h0 h1 h2 ⟨fm_cut hw h2, fm_fit hw h2, fun _ hj => fm_at hw h2 hj, fun h => fm_at0 hw h2 h⟩
theorem J.atN {α : Type} {c : α → List AV} {w i : Nat} (hw : ∀ x, (c x).length = w) {l : List α} {k : α → Option β}
    (a : ∀ r, ((i : Nat) : Int) < l.length → l[i]? = Option.some r → (((fm c l).drop (i * w)).take w = c r ∧ (i * w + w ≤ (fm c l).length) = True ∧ (∀ p, i * w ≤ p → p < i * w + w → (fm c l)[p]? = (c r)[p - i * w]?)) → J m (k r) enc) : J m ((at? l (OfNat.ofNat i)).bind k) enc :=
  J.at fun r h0 h1 h2 => a r h1 h2 ⟨fm_cut hw h2, fm_fit hw h2, fm_any hw h2⟩
theorem J.spl {c : Prop} [Decidable c] (a : c → J m s1 enc) (b : ¬ c → J m s2 enc) : J m (spl c s1 s2) enc := J.ite a b
theorem J.iteLt {a b : Int} {d : Decidable (a < b)} (p : a < b → ¬ b ≤ a → J m s1 enc) (q : ¬ a < b → b ≤ a → J m s2 enc) : J m (if a < b then s1 else s2) enc := by
  by_cases h : a < b
  · rw [if_pos h]; exact p h (by omega)
  · rw [if_neg h]; exact q h (by omega)
theorem J.iteLe {a b : Int} {d : Decidable (a ≤ b)} (p : a ≤ b → ¬ b < a → J m s1 enc) (q : ¬ a ≤ b → b < a → J m s2 enc) : J m (if a ≤ b then s1 else s2) enc := by
  by_cases h : a ≤ b
  · rw [if_pos h]; exact p h (by omega)
  · rw [if_neg h]; exact q h (by omega)
theorem J.iteEq {a b : Int} {d : Decidable (a = b)} (p : decide (a = b) = true → a ≤ b → b ≤ a → J m s1 enc) (q : ¬ a = b → J m s2 enc) : J m (if a = b then s1 else s2) enc := by
  by_cases h : a = b
  · rw [if_pos h]; exact p (decide_eq_true h) (by omega) (by omega)
  · rw [if_neg h]; exact q h
theorem J.iteB {b : Bool} {d : Decidable (b = true)} (p : b = true → J m s1 enc) (q : b = false → J m s2 enc) : J m (if b = true then s1 else s2) enc := by
  cases b
  · rw [if_neg Bool.false_ne_true]; exact q rfl
  · rw [if_pos rfl]; exact p rfl
theorem J.iteD {c : Prop} {d : Decidable c} (p : decide c = true → J m s1 enc) (q : ¬ c → J m s2 enc) : J m (if c then s1 else s2) enc := by
  by_cases h : c
  · rw [if_pos h]; exact p (decide_eq_true h)
  · rw [if_neg h]; exact q h
variable {P : Program} {C : Cfg} {cp : CallP} {ci : CallI} {lvl : Nat} {prot : List Id} {D : List (Nat × List Nat)} {n : Nat} {K : KK}
variable {e : Env} {h : Heap} {fs : List Fr} {a b c : Code}
theorem J.joinT {i t0 : Nat} {ρ τ : Type} (L : LJ i t0 ρ τ) {r : ρ} {fj : τ → Option β} {e1 : τ → Env} {h1 : τ → Heap} (ht : cid b = t0) (hu : ∀ t, L.u r t e = e1 t) (hv : ∀ t, L.v r t h = h1 t)
    (g1 : ∀ t, J (go P C cp ci lvl prot D n K b (e1 t) (h1 t) fs) (fj t) enc)
    (g2 : (∀ t e' h', e' = e1 t → h' = h1 t → J (ret P C cp ci lvl prot D n K (.bar :: .seq b :: fs) .normal e' h') (fj t) enc) → J (go P C cp ci lvl prot D n K a e h (.bar :: .seq b :: fs)) s enc) :
    J (go P C cp ci lvl prot D n K (.seq a b) e h fs) (jn i r fj s) enc :=
  J.joinS (fun t => (e1 t, h1 t)) fj g1 fun hj => g2 fun t e' h' he hh => by subst he hh; exact hj t
theorem J.sqj {i : Nat} {ρ τ : Type} {r : ρ} {fj : τ → Option β} (j : J (go P C cp ci lvl prot D n K a e h (.seq b :: fs)) (jn i r fj s) enc) : J (go P C cp ci lvl prot D n K (.seq a b) e h fs) (jn i r fj s) enc := J.eq go_seq j
theorem J.rqj {i : Nat} {ρ τ : Type} {r : ρ} {fj : τ → Option β} (j : J (go P C cp ci lvl prot D n K b e h fs) (jn i r fj s) enc) : J (ret P C cp ci lvl prot D n K (.seq b :: fs) .normal e h) (jn i r fj s) enc := J.eq ret_seq j
theorem J.sql {σ : Type} {body : (σ → Option β) → σ → Option β} {k : Nat} {s0 : σ} (j : J (go P C cp ci lvl prot D n K a e h (.seq b :: fs)) (cloop body k s0) enc) : J (go P C cp ci lvl prot D n K (.seq a b) e h fs) (cloop body k s0) enc := J.eq go_seq j
theorem J.rql {σ : Type} {body : (σ → Option β) → σ → Option β} {k : Nat} {s0 : σ} (j : J (go P C cp ci lvl prot D n K b e h fs) (cloop body k s0) enc) : J (ret P C cp ci lvl prot D n K (.seq b :: fs) .normal e h) (cloop body k s0) enc := J.eq ret_seq j
theorem J.loopT {i t0 : Nat} {σ : Type} (L : LJ i t0 Unit σ) {body : (σ → Option β) → σ → Option β} {s0 : σ} {e1 : σ → Env} {h1 : σ → Heap} {k : Nat} (ht : cid c = t0)
    (hu : ∀ s, L.u () s e = e1 s) (hv : ∀ s, L.v () s (sweep prot e h) = h1 s) (he : e = e1 s0) (hh : sweep prot e h = h1 s0)
    (g : ∀ (next : σ → Option β) (k : Nat), (∀ s e h, e = e1 s → sweep prot e h = h1 s → J (gl P C cp ci lvl prot D n K c k e h fs) (next s) enc) →
      ∀ s, J (go P C cp ci lvl prot D n K c (e1 s) (h1 s) (.loop c k :: fs)) (body next s) enc) :
    J (gl P C cp ci lvl prot D n K c k e h fs) (cloop body k s0) enc :=
  J.loop (fun s => (e1 s, h1 s)) body he hh g
theorem J.nextT {σ : Type} {e1 : σ → Env} {h1 : σ → Heap} {next : σ → Option β} {k : Nat} {s : σ} (hn : ∀ s e h, e = e1 s → sweep prot e h = h1 s → J (gl P C cp ci lvl prot D n K c k e h fs) (next s) enc)
    (he : e = e1 s) (hh : sweep prot e h = h1 s) : J (gl P C cp ci lvl prot D n K c k e h fs) (next s) enc := hn s e h he hh
end
theorem unit_all {p : Prop} : (Unit → p) = p := propext ⟨fun h => h (), fun h _ => h⟩
structure Ct (P : Program) where
  f : FuncId
  c : List AV → Option AV
  ok : ∀ args r, c args = Option.some r → PureOK P f args r
section
variable {P : Program}
structure Cm (P : Program) (α β : Type) where
  f : FuncId
  ea : α → List AV
  F : α → Option β
  e : β → AV
  ok : ∀ a b, F a = some b → PureOK P f (ea a) (e b)
  inj : Inj ea
noncomputable def Cm.ct {α β : Type} (c : Cm P α β) : Ct P := ⟨c.f, mkC c.ea c.F c.e, mkC_ok c.ok⟩
def Hit (cp : CallP) (c : Ct P) : Prop := ∀ args r, c.c args = Option.some r → cp c.f args = Option.some r
theorem Cm.at {α β : Type} (c : Cm P α β) {cp : CallP} (H : Hit cp c.ct) (a : α) (b : β) (h : c.F a = some b) : cp c.f (c.ea a) = some (c.e b) := H _ _ (mkC_at c.inj h)
def Hits (cp : CallP) : List (Ct P) → Prop
  | [] => True
  | c :: l => Hit cp c ∧ Hits cp l
noncomputable def tabC : List (Ct P) → CallP
  | [] => noP
  | c :: l => orE c.f c.c (tabC l)
theorem tabC_ok : ∀ l : List (Ct P), CpOK P (tabC l)
  | [] => noP_ok
  | c :: l => orE_ok (tabC_ok l) c.ok
theorem hits_mono {cp cp' : CallP} : ∀ l : List (Ct P), (∀ c ∈ l, ∀ args r, cp c.f args = Option.some r → cp' c.f args = Option.some r) → Hits cp l → Hits cp' l
  | [], _, _ => trivial
  | c :: l, h, H => ⟨fun args r hc => h c (.head _) args r (H.1 args r hc), hits_mono l (fun d hd => h d (.tail _ hd)) H.2⟩
theorem tabC_hits : ∀ l : List (Ct P), (l.map Ct.f).Nodup → Hits (tabC l) l
  | [], _ => trivial
  | c :: l, h => ⟨fun args r hc => orE_hit hc, hits_mono l (fun d hd args r hc => orE_miss (fun heq => (List.nodup_cons.1 h).1 (heq ▸ List.mem_map_of_mem hd)) hc) (tabC_hits l (List.nodup_cons.1 h).2)⟩
variable {β : Type} {s : Option β} {enc : β → AV} {D : List (Nat × List Nat)} {n : Nat}
theorem pureT (hm : P.follows .mixedOrders = true) (l : List (Ct P)) {ids : List Nat} (hl : l.map Ct.f = ids) (hn : ids.Nodup) {f : FuncId} {i : FInfo} (hi : finfo P f D = Option.some i) {args : List AV} {C : Cfg} {ci : CallP → CallI} (hc : ∀ cp, CpOK P cp → CiOK P (ci cp))
    (j : ∀ cp, Hits cp l → J (go P C cp (ci cp) 0 [] D n (fin P i.results i.types) i.code (initE 0 args) [] []) s enc) {b : β} (hb : s = Option.some b) : PureOK P f args (enc b) :=
  pure_J hm (tabC_ok l) (hc _ (tabC_ok l)) hi (j _ (tabC_hits l (hl ▸ hn))) hb
theorem pureST (hm : P.follows .mixedOrders = true) (l : List (Ct P)) {ids : List Nat} (hl : l.map Ct.f = ids) (hn : ids.Nodup) {f : FuncId} {i : FInfo} (hi : finfo P f D = Option.some i) {args : List AV} {C : Cfg} {ci : CallP → CallI} (hc : ∀ cp, CpOK P cp → CiOK P (ci cp))
    (j : ∀ cp, Hits cp l → J (go P C cp (ci cp) 0 [] D n (finS P i.results i.types) i.code (initE 0 args) [] []) s enc) {b : β} (hb : s = Option.some b) : PureOK P f args (enc b) :=
  pureS_J hm (tabC_ok l) (hc _ (tabC_ok l)) hi (j _ (tabC_hits l (hl ▸ hn))) hb
end
section
variable {P : Program} {C : Cfg} {cp : CallP} {ci : CallI} {lvl : Nat} {e : Env} {h : Heap}
end
end Go.Av
