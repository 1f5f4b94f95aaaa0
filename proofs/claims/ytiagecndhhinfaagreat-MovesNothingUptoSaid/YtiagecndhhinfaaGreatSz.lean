/- Functions that are ranged over: what they hand over. Conditions: none. -/
import Derived.Test.YtiagecndhhinfaaGreatSh2
set_option linter.unusedVariables false
namespace Go.Av
section
variable {P:Program} {C:bG} {cp:aC} {ci:bz} {lvl:Nat} {N:jq} {prot:List Id} {D:List (Nat×List Nat)}
variable {w0:World} {l:Nat} {YS:List AV} {J:Nat->World->(Nat->Prop)->(Nat->Prop)->Prop}
def ael(w0:World)(J:Nat→World→(Nat→Prop)→(Nat→Prop)→Prop):Prop:=
  ∀ i w1 F1 O1 w2 F2,J i w1 F1 O1->uJ (λb=>b<w0.heap.size∨F1 b∨O1 b) w1 F1 w2 F2->J i w2 F2 O1
structure Oe (N:jq) (w0:World) (J:Nat→World→(Nat→Prop)→(Nat→Prop)→Prop) (i:Nat) (w:World) (F:Nat→Prop) (h:Heap) (M:Id→Option Nat) (O:Nat→Prop) (e:Env) (a:Act):Prop where
  st:St N w F h M e a
  j:J i w F O
  own: ∀ id x b,h.get id=some x->x.rw=true->M id=some b->w0.heap.size<=b/\ ¬ O b
  ob: ∀ b,O b->b<w.heap.size/\ ¬ F b
  base:w0.heap.size<=w.heap.size
theorem Oe.step(hs:ael w0 J){K:Id→Prop}{i:Nat}{w w':World}{F F':Nat→Prop}{h h':Heap}{M M':Id→Option Nat}{O:Nat→Prop}{e e':Env}{a a':Act}(jn:Oe N w0 J i w F h M O e a)
    (st':St N w' F' h' M' e' a') (ev:bn K w F h M w' F' h' M'):Oe N w0 J i w' F' h' M' O e' a' where
  st:=st'
  j :=hs i w F O w' F' jn.j (ev.aab st'.ok fun id x b hg hr hm hk=>by
    have ho:=jn.own id x b hg hr hm
    rcases hk with h1|h1|h1
    · omega
    · exact jn.st.ok.BP hg hr hm h1
    · exact ho.2 h1)
  own id x b hg hr hm:=by
    rcases ev.orig id x hg hr with⟨y,hy,hyr,hym⟩|h1
    · exact jn.own id y b hy hyr (hym ▸ hm)
    · have:=h1 b hm
      exact⟨Nat.le_trans jn.base this,λho=>by have:=(jn.ob b ho).1;omega⟩
  ob b ho:=by
    obtain⟨h1,h2⟩:=jn.ob b ho
    exact⟨Nat.lt_of_lt_of_le h1 ev.size,λhF=>(ev.fold b hF h1).elim h2 λ⟨id,x,hg,hr,hm⟩=>(jn.own id x b hg hr hm).2 ho⟩
  base:=Nat.le_trans jn.base ev.size
end
end Go.Av
