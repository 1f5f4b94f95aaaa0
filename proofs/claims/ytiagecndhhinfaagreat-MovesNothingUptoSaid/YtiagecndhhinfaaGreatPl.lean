/- Plain lemmas on the plain functions' words: loops, places, wrapped numbers. Conditions: those that each names. -/
import Derived.Test.YtiagecndhhinfaaGreatMo
set_option linter.unusedVariables false
namespace Go.Av
theorem aI{β:Type}{c:Prop}[Decidable c]{s:Option β}(h:c):chk c s=s:=if_pos h
theorem at?_nat{α:Type}{l:List α}{i:Nat}:at? l (i:Int)=l[i]? :=by simp[at?]
theorem at?_get{α:Type}{l:List α}{i:Nat}(h:i<l.length):at? l (i:Int)=some l[i]:=by rw[at?_nat,List.getElem?_eq_getElem h]
theorem qw{σ β:Type}{body:(σ→Option β)→σ→Option β}(spec:σ→Option β)(I:σ→Prop)(μ:σ→Nat)
    (h: ∀ s,I s-> ∀ next,(∀ s',I s'->μ s'<μ s->next s'=spec s')->body next s=spec s): ∀ n s,I s->μ s<n->aT body n s=spec s:=by
  intro n
  induction n with
  |zero=>intro s _ h;omega
  |succ n ih=>intro s hI hn;exact h s hI _ λs' hI' hm=>ih s' hI' ae
theorem Yd{σ β:Type}{body:(σ×Int→Option β)→σ×Int→Option β}(N:Nat)(st:Nat→σ)(r:Option β)(h: ∀ k,k<N→ ∀ next,next (st (k+1),((k+1:Nat):Int))=r→body next (st k,(k:Int))=r)
    (he: ∀ next,body next (st N,(N:Int))=r) {n:Nat} (hn:N<n):aT body n (st 0,0)=r:=by
  have: ∀ m k,k≤N→N - k<m→aT body m (st k,(k:Int))=r:=by
    intro m
    induction m with
    |zero=>intro k _ h;omega
    | succ m ih=>
      intro k hk hm
      by_cases hkN:k=N
      · subst hkN;exact he _
      · exact h k ae _ (ih (k+1) ae ae)
  exact this n 0 ae ae
theorem U2(x:Int):wk .i64 x=(x+9223372036854775808)%18446744073709551616 - 9223372036854775808:=by
  simp only[wk,IntKind.wrap,IntKind.signed,IntKind.bits]
  simp
  omega
theorem bi{x:Int}(h1: -9223372036854775808<=x)(h2:x<9223372036854775808):wk .i64 x=x:=aAN h1 h2
theorem adW(x:Int): ∃ k,wk .i64 x=x+18446744073709551616*k:=by
  refine⟨-((x+9223372036854775808) / 18446744073709551616),?_⟩
  rw[U2];omega
theorem adX(x k:Int):wk .i64 (x+18446744073709551616*k)=wk .i64 x:=by
  rw[U2,U2];omega
theorem aAO(a b:Int):wk .i64 (wk .i64 a*b)=wk .i64 (a*b):=by
  obtain⟨k,hk⟩:=adW a
  rw[hk,Int.add_mul,show 18446744073709551616*k*b=18446744073709551616*(k*b)by rw[Int.mul_assoc],adX]
theorem adV(a b:Int):wk .i64 (wk .i64 a+b)=wk .i64 (a+b):=by
  obtain⟨k,hk⟩:=adW a
  rw[hk,show a+18446744073709551616*k+b=a+b+18446744073709551616*k by omega,adX]
end Go.Av
