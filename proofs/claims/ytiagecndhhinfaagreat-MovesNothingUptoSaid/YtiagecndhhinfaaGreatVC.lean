/- Rows, what is told of a tensor, Pad, Split, GatherElements and Gather. Gather of a tensor. Slice of a tensor. Concat of tensors. What moves makes of tensors, over all operators but one. What moves makes of tensors, each operator but one. Floats: a product and a sum always come to something. What moves makes of tensors: ScatterElements, and all operators together. The document's size, and whether a tensor may be. MovesNothing: the law over the plain functions. Conditions: those that each names. -/
import Derived.Test.YtiagecndhhinfaaGreatVB
import Derived.Test.YtiagecndhhinfaaGreatQS
import Derived.Test.YtiagecndhhinfaaGreatPl
import Derived.Test.YtiagecndhhinfaaGreatVA
import Derived.Test.YtiagecndhhinfaaGreatQA
set_option linter.unusedVariables false
set_option linter.unusedSimpArgs false
namespace Go.Av
theorem ai5{fu:Nat}{a b:List Int}(hl:a.length+b.length≤1000000):EJ (fu+4) [a,b]=some (a++b):=by
  have w0:wk .i64 (0+1)=1:=rfl
  have w1:wk .i64 (1+1)=2:=rfl
  have g0:at? [a,b] 0=some a:=rfl
  have g1:at? [a,b] 1=some b:=rfl
  have hW1:dI.W1 (fu+4) [a,b] [] 0=some (a++b):=by
    unfold dI.W1
    rw[dC]
    show dI.L1 (fu+4) [a,b] _ [] 0=_
    rw[dI.L1,if_pos (by simp),g0,ai,aI (by simp;omega),w0,dC]
    show dI.L1 (fu+4) [a,b] _ ([]++a) 1=_
    rw[dI.L1,if_pos (by simp),g1,ai,aI (by simp;omega),w1,dC]
    show dI.L1 (fu+4) [a,b] _ ([]++a++b) 2=_
    rw[dI.L1,if_neg (by simp),List.nil_append]
  have hW2:dI.W2 (fu+4) [a,b] [] 0=some (a++b):=by
    unfold dI.W2
    rw[dC]
    show dI.L2 (fu+4) [a,b] _ [] 0=_
    rw[dI.L2,if_pos (by simp),g0,ai,aI (by simp;omega),w0,dC]
    show dI.L2 (fu+4) [a,b] _ ([]++a) 1=_
    rw[dI.L2,if_pos (by simp),g1,ai,aI (by simp;omega),w1,dC]
    show dI.L2 (fu+4) [a,b] _ ([]++a++b) 2=_
    rw[dI.L2,if_neg (by simp),List.nil_append]
  have hk: ∀ n:Nat,n≤1000000→dI.k1 (fu+4) [a,b] (n:Int)=some (a++b):=fun n hn=>by
    unfold dI.k1 jn
    rw[if_neg ae]
    unfold dI.k2
    have e0:wk .i64 (0 - 0)=0:=rfl
    have e00:wk .i64 0=0:=rfl
    rw[e00,bi (x:=(n:Int) - 0) ae ae]
    by_cases h:0<(n:Int) - 0
    · rw[if_pos h,aI ae,aI ae,hW1]
    · rw[if_neg h,hW2]
  unfold EJ dI jn dI.W3
  rw[dC]
  have e1:wk .i64 (0+(a.length:Int))=(a.length:Int):=by rw[bi ae ae];omega
  have e2:wk .i64 ((a.length:Int)+(b.length:Int))=((a.length+b.length:Nat):Int):=by rw[bi ae ae];omega
  show(dI.L3 (fu+4) [a,b] _ 0 0).bind _=_
  rw[dI.L3,if_pos (by simp),g0,ai,e1,if_neg ae,w0,dC]
  show(dI.L3 (fu+4) [a,b] _ (a.length:Int) 1).bind _=_
  rw[dI.L3,if_pos (by simp),g1,ai,e2,if_neg ae,w1,dC]
  show(dI.L3 (fu+4) [a,b] _ ((a.length+b.length:Nat):Int) 2).bind _=_
  rw[dI.L3,if_neg (by simp),hk _ ae,ai]
theorem ai4{fu:Nat}{a b:List Int}(hl:a.length+b.length≤1000000):EI (fu+4) [a,b]=some (a++b):=by
  have w0:wk .i64 (0+1)=1:=rfl
  have w1:wk .i64 (1+1)=2:=rfl
  have g0:at? [a,b] 0=some a:=rfl
  have g1:at? [a,b] 1=some b:=rfl
  have hW1:dH.W1 (fu+4) [a,b] [] 0=some (a++b):=by
    unfold dH.W1
    rw[dC]
    show dH.L1 (fu+4) [a,b] _ [] 0=_
    rw[dH.L1,if_pos (by simp),g0,ai,aI (by simp;omega),w0,dC]
    show dH.L1 (fu+4) [a,b] _ ([]++a) 1=_
    rw[dH.L1,if_pos (by simp),g1,ai,aI (by simp;omega),w1,dC]
    show dH.L1 (fu+4) [a,b] _ ([]++a++b) 2=_
    rw[dH.L1,if_neg (by simp),List.nil_append]
  have hW2:dH.W2 (fu+4) [a,b] [] 0=some (a++b):=by
    unfold dH.W2
    rw[dC]
    show dH.L2 (fu+4) [a,b] _ [] 0=_
    rw[dH.L2,if_pos (by simp),g0,ai,aI (by simp;omega),w0,dC]
    show dH.L2 (fu+4) [a,b] _ ([]++a) 1=_
    rw[dH.L2,if_pos (by simp),g1,ai,aI (by simp;omega),w1,dC]
    show dH.L2 (fu+4) [a,b] _ ([]++a++b) 2=_
    rw[dH.L2,if_neg (by simp),List.nil_append]
  have hk: ∀ n:Nat,n≤1000000→dH.k1 (fu+4) [a,b] (n:Int)=some (a++b):=fun n hn=>by
    unfold dH.k1 jn
    rw[if_neg ae]
    unfold dH.k2
    have e0:wk .i64 (0 - 0)=0:=rfl
    have e00:wk .i64 0=0:=rfl
    rw[e00,bi (x:=(n:Int) - 0) ae ae]
    by_cases h:0<(n:Int) - 0
    · rw[if_pos h,aI ae,aI ae,hW1]
    · rw[if_neg h,hW2]
  unfold EI dH jn dH.W3
  rw[dC]
  have e1:wk .i64 (0+(a.length:Int))=(a.length:Int):=by rw[bi ae ae];omega
  have e2:wk .i64 ((a.length:Int)+(b.length:Int))=((a.length+b.length:Nat):Int):=by rw[bi ae ae];omega
  show(dH.L3 (fu+4) [a,b] _ 0 0).bind _=_
  rw[dH.L3,if_pos (by simp),g0,ai,e1,if_neg ae,w0,dC]
  show(dH.L3 (fu+4) [a,b] _ (a.length:Int) 1).bind _=_
  rw[dH.L3,if_pos (by simp),g1,ai,e2,if_neg ae,w1,dC]
  show(dH.L3 (fu+4) [a,b] _ ((a.length+b.length:Nat):Int) 2).bind _=_
  rw[dH.L3,if_neg (by simp),hk _ ae,ai]
theorem ai2{fu:Nat}{a b:List Bool}(hl:a.length+b.length≤1000000):EH (fu+4) [a,b]=some (a++b):=by
  have w0:wk .i64 (0+1)=1:=rfl
  have w1:wk .i64 (1+1)=2:=rfl
  have g0:at? [a,b] 0=some a:=rfl
  have g1:at? [a,b] 1=some b:=rfl
  have hW1:dF.W1 (fu+4) [a,b] [] 0=some (a++b):=by
    unfold dF.W1
    rw[dC]
    show dF.L1 (fu+4) [a,b] _ [] 0=_
    rw[dF.L1,if_pos (by simp),g0,ai,aI (by simp;omega),w0,dC]
    show dF.L1 (fu+4) [a,b] _ ([]++a) 1=_
    rw[dF.L1,if_pos (by simp),g1,ai,aI (by simp;omega),w1,dC]
    show dF.L1 (fu+4) [a,b] _ ([]++a++b) 2=_
    rw[dF.L1,if_neg (by simp),List.nil_append]
  have hW2:dF.W2 (fu+4) [a,b] [] 0=some (a++b):=by
    unfold dF.W2
    rw[dC]
    show dF.L2 (fu+4) [a,b] _ [] 0=_
    rw[dF.L2,if_pos (by simp),g0,ai,aI (by simp;omega),w0,dC]
    show dF.L2 (fu+4) [a,b] _ ([]++a) 1=_
    rw[dF.L2,if_pos (by simp),g1,ai,aI (by simp;omega),w1,dC]
    show dF.L2 (fu+4) [a,b] _ ([]++a++b) 2=_
    rw[dF.L2,if_neg (by simp),List.nil_append]
  have hk: ∀ n:Nat,n≤1000000→dF.k1 (fu+4) [a,b] (n:Int)=some (a++b):=fun n hn=>by
    unfold dF.k1 jn
    rw[if_neg ae]
    unfold dF.k2
    have e0:wk .i64 (0 - 0)=0:=rfl
    have e00:wk .i64 0=0:=rfl
    rw[e00,bi (x:=(n:Int) - 0) ae ae]
    by_cases h:0<(n:Int) - 0
    · rw[if_pos h,aI ae,aI ae,hW1]
    · rw[if_neg h,hW2]
  unfold EH dF jn dF.W3
  rw[dC]
  have e1:wk .i64 (0+(a.length:Int))=(a.length:Int):=by rw[bi ae ae];omega
  have e2:wk .i64 ((a.length:Int)+(b.length:Int))=((a.length+b.length:Nat):Int):=by rw[bi ae ae];omega
  show(dF.L3 (fu+4) [a,b] _ 0 0).bind _=_
  rw[dF.L3,if_pos (by simp),g0,ai,e1,if_neg ae,w0,dC]
  show(dF.L3 (fu+4) [a,b] _ (a.length:Int) 1).bind _=_
  rw[dF.L3,if_pos (by simp),g1,ai,e2,if_neg ae,w1,dC]
  show(dF.L3 (fu+4) [a,b] _ ((a.length+b.length:Nat):Int) 2).bind _=_
  rw[dF.L3,if_neg (by simp),hk _ ae,ai]
section
variable {fu:Nat} {s:dh} {L:List aj} {x:aj} {a:Int} {d:List Int}
theorem Uu{l:List aj}(h0:1≤l.length)(hl:l.length≤100)(hb: ∀ t ∈ l,t.fF.length≤4096∧t.fI.length≤4096∧t.fB.length≤4096)(hf:500000<fu): ∃ y,jE fu l=some y∧Small y∧Fuel fu y:=by
  unfold jE
  rw[show(0:Int)=((0:Nat):Int)from rfl,at?_get h0,ai,dB]
  unfold jE.W1
  refine jC l.length (λm (st:List Int×List Int×List Bool×Int)=>st.2.2.2=(m:Int)/\st.1.length<=4096*m/\st.2.1.length<=4096*m/\st.2.2.1.length<=4096*m) (λr=> ∃ y,r=some y/\Small y/\Fuel fu y) ?_ ?_ ⟨rfl,by simp,by simp,by simp⟩ ae
  · rintro m ⟨A,B,C,i⟩ next hm ⟨h1,h2,h3,h4⟩ hx
    dsimp only at h1 h2 h3 h4 ⊢
    subst h1
    obtain⟨b1,b2,b3⟩:=hb _ (List.getElem_mem hm)
    obtain⟨q,rfl⟩: ∃ q,fu=q+4:=⟨fu - 4,by omega⟩
    unfold jE.L1
    rw[if_pos ae,at?_get hm,ai,ai5 ae,ai,ai4 ae,ai,ai2 ae,ai,dL ae]
    exact hx _ ⟨rfl,by simp only[List.length_append];omega,by simp only[List.length_append];omega,by simp only[List.length_append];omega⟩
  · rintro⟨A,B,C,i⟩ next ⟨h1,h2,h3,h4⟩
    dsimp only at h1 h2 h3 h4 ⊢
    subst h1
    unfold jE.L1 jE.k1
    rw[if_neg ae]
    exact⟨_,rfl,⟨by simp,by simp only;omega,by simp only;omega,by simp only;omega⟩,by simp;omega,by simp only;omega,by simp only;omega,by simp only;omega⟩
theorem avJ(hc:dQ x=0)(hf:6000<fu): ∃ y,eX fu ⟨60,s,L,x,a⟩ d []=some y:=by
  have hg:=(gQ.1 hc).2.1
  have e:eX fu ⟨60,s,L,x,a⟩ d []=((eF fu x.fDims).bind λx3=>some (aj.mk 7 ([]) ([]) ([x3.1]) ([]))).bind λy=>some y:=rfl
  rw[e,zS hg ae]
  exact⟨_,rfl⟩
theorem avK(hc:dQ x=0)(hs:wu fu s)(hv:dQ s.fValue=0)(hgd:Good d)(hf:500000<fu): ∃ y,eX fu ⟨62,s,L,x,a⟩ d []=some y:=by
  have hg:=(gQ.1 hc).2.1
  have e:eX fu ⟨62,s,L,x,a⟩ d []=((eF fu x.fDims).bind λx3=>(jI fu s.fValue).bind λx4=>(jE fu ([x4])).bind λx5=>(cO fu x5 d (λy0=>xq fu y0)).bind λx6=>some x6).bind λy=>some y:=rfl
  obtain⟨l1,l2,l3,l4⟩:=qE (t:=aF s.fValue) (by rw[sF];exact hv)
  obtain⟨r,hr,hr1,hr2⟩:=Uu (fu:=fu) (l:=[aF s.fValue]) (by simp) (by simp) (fun t ht=>by
    have:t=aF s.fValue:=by simpa using ht
    subst this;exact⟨l2,l3,l4⟩) hf
  obtain⟨y,hy⟩:=MI (p2:=λy0=>xq fu y0) hr1 hr2 hgd ae λ_ k _=>⟨0,rfl⟩
  rw[e,zS hg ae,ai,Aa hs.valt hs.valf.2.1,ai,hr,ai,hy]
  exact⟨_,rfl⟩
theorem avI(hc:dQ x=0)(h1: -9223372036854775808≤s.fStart)(h2:s.fStart<9223372036854775808)(hd:d=[bV 0 (uG s x.fDims.length - holdV s.fStart x.fDims.length)])(hf:6000<fu): ∃ y,eX fu ⟨59,s,L,x,a⟩ d []=some y:=by
  have hg:=(gQ.1 hc).2.1
  have h8:=hg.1
  have e:eX fu ⟨59,s,L,x,a⟩ d []=((eF fu x.fDims).bind λx3=>if s.fStart<0 then(jm.k2 fu ⟨59,s,L,x,a⟩ d (wk .i64 (s.fStart+(x.fDims.length:Int))))else jm.k2 fu ⟨59,s,L,x,a⟩ d s.fStart).bind λy=>some y:=rfl
  have oW: ∀ n r:Int,0≤r→0≤holdV n r∧holdV n r≤r:=fun n r hr=>by
    unfold holdV
    rw[wZ,Lh]
    split <;> split <;> split <;> omega
  have hto:uG s x.fDims.length≤x.fDims.length:=by
    unfold uG
    split
    · exact(oW _ _ ae).2
    · exact Int.le_refl _
  have key: ∀ v:Int,(v=if s.fStart<0 then s.fStart+(x.fDims.length:Int)else s.fStart)→ ∃ y,jm.k2 fu ⟨59,s,L,x,a⟩ d v=some y:=fun v hv=>by
    have hh:holdV s.fStart x.fDims.length=bV 0 (iH v x.fDims.length):=by unfold holdV;rw[hv]
    have hM:bV 0 v=if v>0 then v else 0:=wZ
    unfold jm.k2
    rw[hd]
    show ∃ y,(some _).bind _=some y
    rw[ai,hh]
    generalize hxx:bV 0 (uG s x.fDims.length - bV 0 (iH v x.fDims.length))=X8
    rw[wZ,wZ,Lh]at hxx
    have hX:0≤X8∧ ∀ i:Int,0≤i→i<X8→0≤bV v 0+i∧bV v 0+i<x.fDims.length:=by
      refine⟨by split at hxx <;> omega,λi i0 i1=> ?_⟩
      rw[wZ]
      split at hxx <;> (try split at hxx) <;> (try split at hxx) <;> split <;> omega
    obtain⟨N,rfl⟩:=Int.eq_ofNat_of_zero_le hX.1
    have hN:N≤8:=by
      rcases Nat.eq_zero_or_pos N with h|h
      · omega
      · have:=hX.2 ((N - 1:Nat):Int) ae ae
        have:=hX.2 0 ae ae
        omega
    unfold jm.W1
    refine jC N (λm (st:List Int×Int)=>st.2=(m:Int)/\st.1.length=m) (λr=> ∃ y,r=some y) ?_ ?_ ⟨rfl,rfl⟩ ae
    · rintro m ⟨O,i⟩ next hm ⟨q1,q2⟩ hx
      dsimp only at q1 q2 ⊢
      subst q1
      obtain⟨r1,r2⟩:=hX.2 (m:Int) ae ae
      obtain⟨p,hp⟩:=Int.eq_ofNat_of_zero_le r1
      unfold jm.L1
      dsimp only
      rw[if_pos ae,bi (x:=bV v 0+(m:Int)) ae ae,hp,bY ae,ai,aI ae,dL ae]
      exact hx _ ⟨rfl,by simp[q2]⟩
    · rintro⟨O,i⟩ next ⟨q1,q2⟩
      dsimp only at q1 q2 ⊢
      subst q1
      unfold jm.L1
      rw[if_neg ae]
      exact⟨_,rfl⟩
  rw[e,zS hg ae,ai]
  by_cases hn:s.fStart<0
  · rw[if_pos hn,bi ae ae]
    obtain⟨y,hy⟩:=key (s.fStart+x.fDims.length) (by rw[if_pos hn])
    rw[hy];exact⟨_,rfl⟩
  · rw[if_neg hn]
    obtain⟨y,hy⟩:=key s.fStart (by rw[if_neg hn])
    rw[hy];exact⟨_,rfl⟩
theorem avF{z:aj}(hs:Small x)(hft:Fuel fu x)(hc:dQ x=0)(hgd:Good d)(hd:d.length=x.fDims.length)(hz:0<x.fDims.length→at? L 1=some z∧x.fDims.length≤z.fI.length)(h2: ∀ t,at? L 2=some t→t.fType≠0→t.fF.length≤4096∧t.fI.length≤4096∧t.fB.length≤4096)(hf:500000<fu): ∃ y,eX fu ⟨53,s,L,x,a⟩ d []=some y:=by
  have hg:=(gQ.1 hc).2.1
  have h8:=hg.1
  have hlx:=qE hc
  have hin: ∀ k n:Int,∃ v,BL fu ⟨53,s,L,x,a⟩ k n=some v:=fun k n=>by
    unfold BL
    split
    · split
      · exact⟨_,rfl⟩
      · split
        · exact⟨_,rfl⟩
        · split <;> exact⟨_,rfl⟩
    · split
      · exact⟨_,rfl⟩
      · split <;> exact⟨_,rfl⟩
  have clo: ∀ (b:Int) (st i:List Int),i.length=x.fDims.length→st.length=x.fDims.length→ ∃ v,kX fu i ⟨53,s,L,x,a⟩ b st=some v:=fun b st i hi hst=>by
    unfold kX kX.W1
    refine jC x.fDims.length (λm (st:Int×Int)=>st.2=(m:Int)) (λr=> ∃ y,r=some y) ?_ ?_ rfl ae
    · rintro m ⟨O,j⟩ next hm rfl hx
      obtain⟨z1,z2⟩:=hz ae
      dsimp only
      unfold kX.L1
      dsimp only
      obtain⟨v,hv⟩:=hin (wk .i64 (gI i m - gI z.fI m)) (gI x.fDims m)
      rw[if_pos ae,bY hm,ai,bY ae,ai,z1,ai,bY ae,ai,hv,ai,dL ae]
      split
      · exact⟨_,rfl⟩
      · rw[bY ae,ai];exact hx _ rfl
    · rintro⟨O,j⟩ next rfl
      dsimp only
      unfold kX.L1
      dsimp only
      rw[if_neg ae]
      exact⟨_,rfl⟩
  have pk: ∀ (b:Int) (r:aj),Small r→Fuel fu r→ ∃ y,cO fu r d (fun y0=>kX fu y0 ⟨53,s,L,x,a⟩ b (dK x.fDims))=some y:=fun b r r1 r2=>
    MI r1 r2 hgd ae λ_ k _=>clo b _ _ (by rw[qC,hd]) (qI _)
  have e:eX fu ⟨53,s,L,x,a⟩ d []=(zx fu ⟨53,s,L,x,a⟩ d).bind λy=>some y:=rfl
  rw[e]
  suffices h: ∃ y,zx fu ⟨53,s,L,x,a⟩ d=some y by
    obtain⟨y,hy⟩:=h
    rw[hy];exact⟨_,rfl⟩
  have plain: ∃ y,((jA fu x.fDims).bind fun x10=>(cO fu x d (fun y0=>kX fu y0 ⟨53,s,L,x,a⟩ (-1) x10)).bind fun x11=>some x11)=some y:=by
    obtain⟨y,hy⟩:=pk (-1) x hs hft
    rw[rJ hg ae,ai,hy]
    exact⟨_,rfl⟩
  unfold zx
  dsimp only
  by_cases c:2<(L.length:Int)
  · have ha:at? L (2:Int)=some (L[2]'ae):=at?_get (i:=2) ae
    rw[if_pos c,ha,ai]
    by_cases c0:(L[2]'ae).fType=0
    · rw[if_pos c0];exact plain
    · rw [if_neg c0,zS hg ae,ai]
      obtain⟨t1,t2,t3⟩:=h2 _ ha c0
      obtain⟨r,hr,hr1,hr2⟩:=Uu (fu:=fu) (l:=[x,L[2]'ae]) (by simp) (by simp) (fun t ht=>by
        rcases List.mem_cons.1 ht with rfl|ht
        · exact hlx.2
        · have:t=L[2]'ae:=by simpa using ht
          subst this;exact⟨t1,t2,t3⟩) hf
      obtain⟨y,hy⟩:=pk (aO x.fDims) r hr1 hr2
      rw[hr,ai,rJ hg ae,ai,hy]
      exact⟨_,rfl⟩
  · rw[if_neg c];exact plain
theorem azg{k:Nat}{ty:Int}(hs:Small x)(hft:Fuel fu x)(hc:dQ x=0)(hk:k<x.fDims.length)(hf:6000<fu): ∃ y,pX fu ⟨48,s,L,x,(k:Int)⟩ [rF ty x.fDims]=some [y]:=by
  have hg:=(gQ.1 hc).2.1
  have h8:=hg.1
  obtain⟨q,rfl⟩: ∃ q,fu=q+2:=⟨fu - 2,by omega⟩
  unfold pX
  dsimp only
  rw[rJ hg ae,ai]
  unfold pX.W1
  obtain⟨y,hy⟩:=MI (fu:=q+2) (p2:=fun y0=>xn (q+2) y0 0 (dK x.fDims)) hs hft hg ae fun _ k _=>by
    obtain⟨v,hv⟩:=ZJ (fu:=q+2) (xs:=bF x.fDims (k:Int)) (ys:=dK x.fDims) (by rw[qC,qI];exact Nat.le_refl _) (by rw[qI];omega) (by rw[qI];omega)
    unfold xn
    rw[hv];exact⟨_,rfl⟩
  rw[dC]
  dsimp only
  unfold pX.L1
  rw[if_pos (by simp)]
  show ∃ y,(some (rF ty x.fDims)).bind _=some [y]
  rw[ai]
  show ∃ y,(cO (q+2) x x.fDims _).bind _=some [y]
  rw[hy,ai,aI (by simp)]
  show ∃ y,(at? x.fDims (k:Int)).bind _=some [y]
  rw[bY hk,ai,bY (by rw[qI];exact hk),ai]
  show ∃ y',aT _ (q+1) _=some [y']
  rw[dC]
  exact⟨_,rfl⟩
theorem Vz{op:Int}{k:Nat}{y:aj}(hc:dQ x=0)(hcy:dQ y=0)(hy7:y.fType=7)(hL:at? L 1=some y)(hF:Fits x.fDims y.fDims k)(hk:k<x.fDims.length)(hn: ∀ e ∈ y.fI,0≤wv (gI x.fDims k) e∧wv (gI x.fDims k) e<gI x.fDims k)(hf:6000<fu):
    ∃ l:List Int,iO fu ⟨op,s,L,x,(k:Int)⟩ (y.fI.map (wv (gI x.fDims k)))=some l/\(l.length:Int)=aO y.fDims/\ ∀ e ∈ l,0<=e/\e<aO x.fDims:=by
  obtain⟨-,hg, -⟩:=gQ.1 hc
  obtain⟨-,hgy,hLy⟩:=gQ.1 hcy
  obtain⟨N,hN⟩:=Int.eq_ofNat_of_zero_le (uB hgy.2.1)
  have hl:(y.fI.length:Int)=aO y.fDims:=by have:=hLy.2.1;rwa[if_pos hy7]at this
  have hj: ∀ j,j<N→0≤gI (y.fI.map (wv (gI x.fDims k))) j∧gI (y.fI.map (wv (gI x.fDims k))) j<gI x.fDims k:=fun j hj=>by
    rw[cu (by simp;omega)]
    simp only[List.getElem_map]
    exact hn _ (List.getElem_mem _)
  have hp:=λ(j:Nat) (h:j<N)=>awC (fu:=fu) (j:=j) hg hgy hF hk ae (hj j h).1 (hj j h).2 ae
  refine⟨_,afd (f:=λj=>xC x.fDims y.fDims k j (gI (y.fI.map (wv (gI x.fDims k))) j)) hL hgy hN ae (rJ hg ae) (λj h=> ?_),by simp;omega,λe he=> ?_⟩
  · obtain⟨-,p,c,e,h1,h2,h3,h4⟩:=hp j h
    exact⟨p,_,c,e,h1,bY (by simp;omega),h2,h3,h4⟩
  · obtain⟨j,h,rfl⟩:=List.mem_map.1 he
    exact(hp j (List.mem_range.1 h)).1
theorem avE{k:Nat}{y:aj}(hs:Small x)(hft:Fuel fu x)(hgd:Good d)(hc:dQ x=0)(hcy:dQ y=0)(hy7:y.fType=7)(hL:at? L 1=some y)(hF:Fits x.fDims y.fDims k)(hk:k<x.fDims.length)(hn: ∀ e ∈ y.fI,0≤wv (gI x.fDims k) e∧wv (gI x.fDims k) e<gI x.fDims k)(hf:6000<fu):
    ∃ z,eX fu ⟨51,s,L,x,(k:Int)⟩ d (y.fI.map (wv (gI x.fDims k)))=some z:=by
  obtain⟨l,h1,h2,h3⟩:=Vz (op:=51) (s:=s) hc hcy hy7 hL hF hk hn hf
  have hgy:=(gQ.1 hcy).2.1
  have:=hgy.2.2
  have:=hgd.1
  have e:eX fu ⟨51,s,L,x,(k:Int)⟩ d (y.fI.map (wv (gI x.fDims k)))=(iO fu ⟨51,s,L,x,(k:Int)⟩ (y.fI.map (wv (gI x.fDims k)))).bind λx8=>(df fu x d x8).bind λx9=>some x9.1:=rfl
  rw[e,h1,ai,Oi hs hft (by unfold Short;omega) ae (by unfold Short;omega) ae]
  exact⟨_,rfl⟩
end
end Go.Av
namespace Go.Av
theorem wX{l:List Int}{a b:Nat}:gI (l.drop a) b=gI l (a+b):=by
  unfold gI
  rw[List.getD_eq_getElem?_getD,List.getD_eq_getElem?_getD,List.getElem?_drop]
theorem Em{l:List Int}{a b:Nat}(h:b<a):gI (l.take a) b=gI l b:=by
  unfold gI
  rw[List.getD_eq_getElem?_getD,List.getD_eq_getElem?_getD,List.getElem?_take_of_lt h]
theorem aag{l m:List Int}{a:Nat}:gI (l++m) a=if a<l.length then gI l a else gI m (a - l.length):=by
  unfold gI
  rw[List.getD_eq_getElem?_getD,List.getD_eq_getElem?_getD,List.getD_eq_getElem?_getD]
  by_cases h:a<l.length
  · rw[if_pos h,List.getElem?_append_left h]
  · rw[if_neg h,List.getElem?_append_right ae]
theorem ao9{n a:Nat}{f:Nat→Int}(h:a<n):gI ((List.range n).map f) a=f a:=by
  rw[cu (by simpa using h)];simp
theorem JL{xs ys xs' ys':List Int}: ∀ m,(∀ i,i<m→gI xs i=gI xs' i∧gI ys i=gI ys' i)→dG xs ys m=dG xs' ys' m
  |0,_=>rfl
  | m+1,h=>by
    rw[dG,dG,JL m λi hi=>h i ae,(h m ae).1,(h m ae).2]
theorem ZA{xs ys:List Int}{p:Nat}: ∀ m,dG xs ys (p+m)=dG xs ys p+dG (xs.drop p) (ys.drop p) m
  |0=>by simp[dG]
  | m+1=>by
    rw[← Nat.add_assoc,dG,ZA m,dG,wX,wX];omega
section
variable {fu:Nat} {s:dh} {L:List aj} {x y:aj} {d:List Int} {k:Nat}
def gC(X i:List Int)(k n:Nat)(v:Int):List Int:=(List.range X.length).map λa=>if a<k then gI i a else if a=k then v else gI i (a+n - 1)
theorem Sm{X i:List Int}{n:Nat}{v:Int}:(gC X i k n v).length=X.length:=by simp[gC]
theorem avD(hs:Small x)(hft:Fuel fu x)(hc:dQ x=0)(hcy:dQ y=0)(hy7:y.fType=7)(hL:at? L 1=some y)(hk:k<x.fDims.length)(hgd:Good d)(hd:d=x.fDims.take k++y.fDims++x.fDims.drop (k+1))
    (hn: ∀ e ∈ y.fI,0<=wv (gI x.fDims k) e/\wv (gI x.fDims k) e<gI x.fDims k) (hf:6000<fu): ∃ z,eX fu ⟨50,s,L,x,(k:Int)⟩ d (y.fI.map (wv (gI x.fDims k)))=some z/\ku x z:=by
  obtain⟨-,hg, -⟩:=gQ.1 hc
  obtain⟨-,hgy,hLy⟩:=gQ.1 hcy
  have h8:=hg.1
  have h8y:=hgy.1
  have hl:(y.fI.length:Int)=aO y.fDims:=by have:=hLy.2.1;rwa[if_pos hy7]at this
  have e:eX fu ⟨50,s,L,x,(k:Int)⟩ d (y.fI.map (wv (gI x.fDims k)))=(BK fu ⟨50,s,L,x,(k:Int)⟩ d (y.fI.map (wv (gI x.fDims k)))).bind λz=>some z:=rfl
  have hdl:d.length=k+y.fDims.length+(x.fDims.length - (k+1)):=by rw[hd];simp;omega
  have hda: ∀ a,gI d a=if a<k then gI x.fDims a else if a<k+y.fDims.length then gI y.fDims (a - k)else gI x.fDims (a - y.fDims.length+1):=fun a=>by
    have hkl:(x.fDims.take k).length=k:=by simp;omega
    rw[hd,List.append_assoc,aag,hkl]
    by_cases c:a<k
    · rw[if_pos c,if_pos c,Em c]
    · rw[if_neg c,if_neg c,aag]
      by_cases c2:a - k<y.fDims.length
      · rw[if_pos c2,if_pos ae]
      · rw[if_neg c2,if_neg ae,wX]
        congr 1;omega
  generalize hN:y.fI.map (wv (gI x.fDims k))=nm at*
  have hnl:nm.length=y.fI.length:=by rw[← hN];simp
  have hnr: ∀ j,j<nm.length→0≤gI nm j∧gI nm j<gI x.fDims k:=fun j hj=>by
    rw[cu hj]
    have:nm[j]=wv (gI x.fDims k) (y.fI[j]'ae):=by subst hN;simp
    rw[this]
    exact hn _ (List.getElem_mem _)
  rw[e]
  unfold BK
  dsimp only
  rw[hL,ai,rJ hg ae,ai,rJ hgy ae,ai]
  obtain ⟨z,h1,h2⟩:=Cb (p2:=fun y0=>vI fu y0 ⟨50,s,L,x,(k:Int)⟩ (dK x.fDims) nm (dK y.fDims) (y.fDims.length:Int)) hs hft hc hgd ae fun hpos q hq=>by
    obtain⟨i1,i2,i3⟩:=BD hgd hpos hq
    generalize bF d (q:Int)=i at i1 i2 i3
    have hyp: ∀ z ∈ y.fDims,1<=z:=λz hz=>hpos z (by rw[hd];simp[hz])
    -- the name
    have hy4: ∀ b,b<y.fDims.length→0≤gI (i.drop k) b∧gI (i.drop k) b<gI y.fDims b∧gI (i.drop k) b≤4096:=fun b hb=>by
      have h3:=i3 (k+b) ae
      rw[hda,if_neg ae,if_pos ae,show k+b - k=b by omega]at h3
      rw[wX];omega
    have hjv:dG (i.drop k) (bg y.fDims) y.fDims.length=nY y.fDims ((i.drop k).take y.fDims.length):=by
      rw[← qx,← D6 (by rw[iV];simp;omega),iV]
      exact JL _ λb hb=>⟨(Em hb).symm,rfl⟩
    have hj:=xA (l:=y.fDims) (xs:=(i.drop k).take y.fDims.length) (fun z hz=>(hgy.2.1 z hz).1) (by simp;omega) (zB (by simp;omega) fun b hb=>by
      rw[Em hb];exact⟨(hy4 b hb).1,(hy4 b hb).2.1⟩)
    rw[← hjv]at hj
    have hd1:dY fu (i.drop k) (bg y.fDims)=some (dG (i.drop k) (bg y.fDims) y.fDims.length):=by
      have:=JQ (fu:=fu) (xs:=i.drop k) (ys:=bg y.fDims) (by rw[iV];simp;omega) (by rw[iV];exact h8y) (λb hb=>by rw[iV]at hb;have:=hy4 b hb;omega) (λb hb=>by rw[iV]at hb;have:=Fq hyp hgy hb;omega) ae
      rwa[iV]at this
    obtain⟨J,hJ⟩:=Int.eq_ofNat_of_zero_le hj.1
    rw[hJ]at hd1
    have hJl:J<nm.length:=ae
    obtain⟨v0,v1⟩:=hnr J hJl
    have hxp: ∀ z ∈ x.fDims,1≤z:=fun z hz=>by
      obtain⟨a,ha,rfl⟩:=List.getElem_of_mem hz
      rw[← cu ha]
      rcases Nat.lt_trichotomy a k with c|c|c
      · have:=hpos _ (List.getElem_mem (show a<d.length by omega))
        rw[← cu,hda,if_pos c]at this
        exact this
      · subst c;omega
      · have:=hpos _ (List.getElem_mem (show a+y.fDims.length - 1<d.length by omega))
        rw[← cu,hda,if_neg ae,if_neg ae,show a+y.fDims.length - 1 - y.fDims.length+1=a by omega]at this
        exact this
    have hsx:=λa (ha:a<x.fDims.length)=>Fq hxp hg ha
    have hX4: ∀ a,a<x.fDims.length→gI x.fDims a≤4096:=fun a ha=>by
      rw[cu ha];exact(hg.2.1 _ (List.getElem_mem ha)).2
    have hca: ∀ a,a<x.fDims.length->gI (gC x.fDims i k y.fDims.length (gI nm J)) a=if a<k then gI i a else if a=k then gI nm J else gI i (a+y.fDims.length - 1):=λa ha=>ao9 ha
    have hok: ∀ a,a<x.fDims.length→0≤gI (gC x.fDims i k y.fDims.length (gI nm J)) a∧gI (gC x.fDims i k y.fDims.length (gI nm J)) a<gI x.fDims a:=fun a ha=>by
      rw[hca a ha]
      by_cases c:a<k
      · have h3:=i3 a ae
        rw[hda,if_pos c]at h3
        rw[if_pos c];omega
      · rw[if_neg c]
        by_cases c2:a=k
        · rw[if_pos c2,c2];exact⟨v0,v1⟩
        · have h3:=i3 (a+y.fDims.length - 1) ae
          rw[hda,if_neg ae,if_neg ae,show a+y.fDims.length - 1 - y.fDims.length+1=a by omega]at h3
          rw[if_neg c2];omega
    refine⟨gC x.fDims i k y.fDims.length (gI nm J),Sm,zB Sm hok,?_⟩
    -- the sum in three parts
    have hm:x.fDims.length=k+1+(x.fDims.length - (k+1)):=ae
    have hsum:nY x.fDims (gC x.fDims i k y.fDims.length (gI nm J))=dG i ((bg x.fDims).take k) k+gI nm J*gI (bg x.fDims) k+dG (i.drop (k+y.fDims.length)) ((bg x.fDims).drop (k+1)) (x.fDims.length - (k+1)):=by
      rw[← qx,← D6 (by rw[iV,Sm]),iV]
      conv=>lhs;rw[hm]
      rw[ZA,dG]
      have e1:dG (gC x.fDims i k y.fDims.length (gI nm J)) (bg x.fDims) k=dG i ((bg x.fDims).take k) k:=JL _ λb hb=>⟨by rw[hca b ae,if_pos hb],(Em hb).symm⟩
      have e2:gI (gC x.fDims i k y.fDims.length (gI nm J)) k=gI nm J:=by rw[hca k hk,if_neg ae,if_pos rfl]
      have e3:dG ((gC x.fDims i k y.fDims.length (gI nm J)).drop (k+1)) ((bg x.fDims).drop (k+1)) (x.fDims.length - (k+1))=dG (i.drop (k+y.fDims.length)) ((bg x.fDims).drop (k+1)) (x.fDims.length - (k+1)):=JL _ fun b hb=>⟨by
        rw[wX,wX,hca _ ae,if_neg ae,if_neg ae]
        congr 1;omega,rfl⟩
      rw[e1,e2,e3]
    have hi4: ∀ a,a<d.length->0<=gI i a/\gI i a<=4096:=λa ha=>by have:=i3 a ha;omega
    have htl:((bg x.fDims).take k).length=k:=by rw[List.length_take,iV];omega
    have hdl2:((bg x.fDims).drop (k+1)).length=x.fDims.length - (k+1):=by rw[List.length_drop,iV]
    have a1: ∀ b,b<k->0<=gI i b/\gI i b<=4096:=λb hb=>hi4 b ae
    have b1: ∀ b,b<k-> -33554432<=gI ((bg x.fDims).take k) b/\gI ((bg x.fDims).take k) b<=33554432:=λb hb=>by rw[Em hb];have:=hsx b ae;omega
    have a2: ∀ b,b<x.fDims.length - (k+1)->0<=gI (i.drop (k+y.fDims.length)) b/\gI (i.drop (k+y.fDims.length)) b<=4096:=λb hb=>by rw[wX];exact hi4 _ ae
    have b2: ∀ b,b<x.fDims.length - (k+1)-> -33554432<=gI ((bg x.fDims).drop (k+1)) b/\gI ((bg x.fDims).drop (k+1)) b<=33554432:=λb hb=>by rw[wX];have:=hsx (k+1+b) ae;omega
    have hd0:dY fu i ((bg x.fDims).take k)=some (dG i ((bg x.fDims).take k) k):=by
      have:=JQ (fu:=fu) (xs:=i) (ys:=(bg x.fDims).take k) (by rw[htl];omega) (by rw[htl];omega) (by rw[htl];exact a1) (by rw[htl];exact b1) ae
      rwa[htl]at this
    have hd2:dY fu (i.drop (k+y.fDims.length)) ((bg x.fDims).drop (k+1))=some (dG (i.drop (k+y.fDims.length)) ((bg x.fDims).drop (k+1)) (x.fDims.length - (k+1))):=by
      have:=JQ (fu:=fu) (xs:=i.drop (k+y.fDims.length)) (ys:=(bg x.fDims).drop (k+1)) (by rw[hdl2,List.length_drop];omega) (by rw[hdl2];omega) (by rw[hdl2];exact a2) (by rw[hdl2];exact b2) ae
      rwa[hdl2]at this
    have r1:=Be a1 b1 k (Nat.le_refl _)
    have r2:=Be a2 b2 (x.fDims.length - (k+1)) (Nat.le_refl _)
    have r3:=BM (a:=gI nm J) (b:=gI (bg x.fDims) k) (A:=4096) (B:=33554432) (by have:=hX4 k hk;omega) (by have:=hsx k hk;omega)
    have s0:iW (bg x.fDims) 0 k=(bg x.fDims).take k:=by unfold iW;simp
    have s1: ∀ (l:List Int) (a:Nat),iW l a l.length=l.drop a:=λl a=>by unfold iW;exact List.take_of_length_le (by simp)
    show vI fu i _ _ nm _ _=_
    unfold vI
    dsimp only
    rw[CY hxp hg,CY hyp hgy,iV,aI ae,Int.toNat_natCast,s0,hd0,ai,aI ae,s1,hd1,ai,bY hJl,ai,bY (by rw[iV];exact hk),ai,bi (x:=(k:Int)+(y.fDims.length:Int)) ae ae,bi (x:=(k:Int)+1) ae ae,aI ae,aI ae,show((k:Int)+(y.fDims.length:Int)).toNat=k+y.fDims.length by omega,show((k:Int)+1).toNat=k+1 by omega,s1]
    have s2:iW (bg x.fDims) (k+1) x.fDims.length=(bg x.fDims).drop (k+1):=by rw[← s1,iV]
    rw[s2,hd2,ai,bi (x:=gI nm J*gI (bg x.fDims) k) ae ae,bi (x:=dG i ((bg x.fDims).take k) k+gI nm J*gI (bg x.fDims) k) ae ae,bi ae ae,hsum]
  rw[h1,ai]
  exact⟨z,rfl,h2⟩
end
end Go.Av
namespace Go.Av
theorem Zz{xs ys:List Int}{k:Nat}{v:Int}(hk:k<ys.length): ∀ m,dG xs (ys.set k v) m=dG xs ys m+if k<m then gI xs k*(v - gI ys k)else 0
  |0=>by simp[dG]
  | m +1=>by
    rw[dG,Zz hk m,dG,mM hk]
    by_cases e:k=m
    · subst e
      rw[if_pos rfl,if_neg ae,if_pos ae,Int.mul_sub];omega
    · rw[if_neg e]
      by_cases c:k<m
      · rw[if_pos c,if_pos ae];omega
      · rw[if_neg c,if_neg ae];omega
theorem Zy{xs ys:List Int}{k:Nat}{v:Int}(hk:k<xs.length): ∀ m,dG (xs.set k v) ys m=dG xs ys m+if k<m then(v - gI xs k)*gI ys k else 0
  |0=>by simp[dG]
  | m +1=>by
    rw[dG,Zy hk m,dG,mM hk]
    by_cases e:k=m
    · subst e
      rw[if_pos rfl,if_neg ae,if_pos ae,Int.sub_mul];omega
    · rw[if_neg e]
      by_cases c:k<m
      · rw[if_pos c,if_pos ae];omega
      · rw[if_neg c,if_neg ae];omega
section
variable {X p q A T st:List Int}
def bS(X A T st:List Int):Nat→List Int
  |0=>st
  |m+1=>(bS X A T st m).set (ax X.length A m) (wk .i64 (gI st (ax X.length A m)*di (gI T m)))
def oS(X p A T st:List Int):Nat→Int
  |0=>0
  |m+1=>wk .i64 (oS X p A T st m+wk .i64 (iD (gI X (ax X.length A m)) (gI p m) (di (gI T m))*gI st (ax X.length A m)))
def cS(X p A T i:List Int):Nat→List Int
  |0=>i
  |m+1=>(cS X p A T i m).set (ax X.length A m) (iD (gI X (ax X.length A m)) (gI p m) (di (gI T m))+gI i (ax X.length A m)*di (gI T m))
theorem AC: ∀ m,(bS X A T st m).length=st.length
  |0=>rfl
  |m+1=>by rw[bS,List.length_set];exact AC m
theorem yz{i:List Int}: ∀ m,(cS X p A T i m).length=i.length
  |0=>rfl
  |m+1=>by rw[cS,List.length_set];exact yz m
theorem VP{a:Nat}(hl:st.length=X.length): ∀ m,(∀ j,j<m→ax X.length A j<X.length)→(∀ j,j<m→ax X.length A j≠a)→gI (bS X A T st m) a=gI st a
  |0,_,_=>rfl
  | m+1,hx,h=>by
    rw[bS,mM (by rw[AC];have:=hx m ae;omega),if_neg (h m ae)]
    exact VP hl m (λj hj=>hx j ae) λj hj=>h j ae
theorem QF{i:List Int}{a:Nat}(hl:i.length=X.length): ∀ m,(∀ j,j<m→ax X.length A j<X.length)→(∀ j,j<m→ax X.length A j≠a)→gI (cS X p A T i m) a=gI i a
  |0,_,_=>rfl
  | m+1,hx,h=>by
    rw[cS,mM (by rw[yz];have:=hx m ae;omega),if_neg (h m ae)]
    exact QF hl m (λj hj=>hx j ae) λj hj=>h j ae
theorem Xq(h:wo X.length p q A T){i:List Int}(hl:i.length=X.length){j:Nat}: ∀ m,m≤p.length→j<m→gI (cS X p A T i m) (ax X.length A j)=iD (gI X (ax X.length A j)) (gI p j) (di (gI T j))+gI i (ax X.length A j)*di (gI T j)
  |0,_,hj=>by omega
  | m+1,hm,hj=>by
    have hm':=h.in_ m ae
    rw[cS,mM (by rw[yz];omega)]
    by_cases e:j=m
    · subst e;rw[if_pos rfl]
    · rw[if_neg (λh'=>h.inj j m ae ae h'.symm)];exact Xq h hl m ae ae
theorem VK(h:wo X.length p q A T)(a:Nat):(∃ j,j<p.length∧ax X.length A j=a)∨ ∀ j,j<p.length→ax X.length A j≠a:=by
  by_cases c: ∃ j,j<p.length/\ax X.length A j=a
  · exact .inl c
  · exact .inr λj hj e=>c ⟨j,hj,e⟩
variable (hg:Good X) (h:wo X.length p q A T) (hpos: ∀ z ∈ dN X p q A T p.length,1<=z)
include hg h hpos
theorem UE: ∀ z ∈ X,1≤z:=fun z hz=>by
  obtain⟨a,ha,rfl⟩:=List.getElem_of_mem hz
  have hd:=hpos _ (List.getElem_mem (show a<(dN X p q A T p.length).length by rw[qW];exact ha))
  have hX:=(hg.2.1 _ (List.getElem_mem ha)).1
  rw[← cu]at hd hX ⊢
  rcases VK h a with⟨j,hj,rfl⟩|hn
  · rw[Q8 h _ (Nat.le_refl _) hj]at hd
    have:=cnt_lt (n:=gI X (ax X.length A j)) (p:=gI p j) (q:=gI q j) (t:=gI T j) (i:=0) hX (h.nz j hj) (Int.le_refl _) ae
    omega
  · rwa[D7 ha _ hn]at hd
omit hpos in
theorem ayY{i:List Int}(hl:i.length=X.length)(hi: ∀ a,a<X.length→0≤gI i a∧gI i a<gI (dN X p q A T p.length) a):jd X (cS X p A T i p.length)=true:=by
  refine zB (by rw[yz,hl]) λa ha=> ?_
  have hX:=(hg.2.1 _ (List.getElem_mem ha)).1
  rw[← cu]at hX
  obtain⟨i0,i1⟩:=hi a ha
  rcases VK h a with⟨j,hj,rfl⟩|hn
  · rw[Xq h hl _ (Nat.le_refl _) hj]
    rw[Q8 h _ (Nat.le_refl _) hj]at i1
    exact cnt_lt hX (h.nz j hj) i0 i1
  · rw[QF hl _ (fun j hj=>(h.in_ j hj).2) hn]
    rw[D7 ha _ hn]at i1
    exact⟨i0,i1⟩
theorem ade{m:Nat}(hm:m<p.length):
    gI (bg X) (ax X.length A m)=gI (dK X) (ax X.length A m)∧wk .i64 (gI (bg X) (ax X.length A m)*di (gI T m))=gI (bg X) (ax X.length A m)*di (gI T m)∧wk .i64 (iD (gI X (ax X.length A m)) (gI p m) (di (gI T m))*gI (bg X) (ax X.length A m))=iD (gI X (ax X.length A m)) (gI p m) (di (gI T m))*gI (bg X) (ax X.length A m)∧
      -16785408<=gI (bg X) (ax X.length A m)*di (gI T m)/\gI (bg X) (ax X.length A m)*di (gI T m)<=16785408/\ -16785408<=iD (gI X (ax X.length A m)) (gI p m) (di (gI T m))*gI (bg X) (ax X.length A m)/\iD (gI X (ax X.length A m)) (gI p m) (di (gI T m))*gI (bg X) (ax X.length A m)<=16785408:=by
  have hk:=(h.in_ m hm).2
  have hxp:=UE hg h hpos
  obtain⟨s1,s2⟩:=Fq hxp hg hk
  obtain⟨c1,c2, -⟩:=QV (t:=gI T m)
  have hX:=hg.2.1 _ (List.getElem_mem hk)
  rw[← cu]at hX
  obtain⟨b1,b2, -⟩:=DR (n:=gI X (ax X.length A m)) (p:=gI p m) (g:=di (gI T m)) hX.1
  have m1:=BM (a:=gI (bg X) (ax X.length A m)) (b:=di (gI T m)) (A:=4096) (B:=4098) ⟨by omega,s2⟩ ⟨by omega,by omega⟩
  have m2:=BM (a:=gI (bg X) (ax X.length A m)) (b:=iD (gI X (ax X.length A m)) (gI p m) (di (gI T m))) (A:=4096) (B:=4098) ⟨by omega,s2⟩ ⟨by omega,by omega⟩
  rw[Int.mul_comm (gI (bg X) (ax X.length A m))]at m2
  exact⟨by rw[CY hxp hg],bi ae ae,bi ae ae,by omega,by omega,by omega,by omega⟩
theorem VQ: ∀ m,m≤p.length→ ∀ a,a<X.length→ -33554432≤gI (bS X A T (bg X) m) a∧gI (bS X A T (bg X) m) a≤33554432
  | 0,_,a,ha=>by
    have:=Fq (UE hg h hpos) hg ha
    show -33554432<=gI (bg X) a/\gI (bg X) a<=33554432
    omega
  | m+1,hm,a,ha=>by
    have ih:=VQ m ae a ha
    obtain⟨e1,e2,e3,r1,r2,r3,r4⟩:=ade hg h hpos (m:=m) ae
    rw[bS,mM (by rw[AC,iV];exact(h.in_ m ae).2)]
    split
    · rw[e2];omega
    · exact ih
theorem abj: ∀ m,m≤p.length→m≤100000→ -(16785408*(m:Int))≤oS X p A T (bg X) m∧oS X p A T (bg X) m≤16785408*(m:Int)∧ ∀ i:List Int,i.length=X.length→dG i (bS X A T (bg X) m) X.length+oS X p A T (bg X) m=dG (cS X p A T i m) (bg X) X.length
  |0,_,_=>⟨by simp[oS],by simp[oS],λi hl=>by simp[oS,bS,cS]⟩
  | m +1,hm,h1=>by
    obtain⟨i1,i2,i3⟩:=abj m ae ae
    obtain⟨e1,e2,e3,r1,r2,r3,r4⟩:=ade hg h hpos (m:=m) ae
    have hk:=(h.in_ m ae).2
    have hx: ∀ j,j<m->ax X.length A j<X.length:=λj hj=>(h.in_ j ae).2
    have hne: ∀ j,j<m->ax X.length A j≠ax X.length A m:=λj hj=>h.inj j m hj ae
    have ea:oS X p A T (bg X) (m+1)=oS X p A T (bg X) m+iD (gI X (ax X.length A m)) (gI p m) (di (gI T m))*gI (bg X) (ax X.length A m):=by
      rw[oS,e3,bi ae ae]
    refine⟨by rw[ea];omega,by rw[ea];omega,λi hl=> ?_⟩
    rw[ea,bS,cS,e2,Zz (by rw[AC,iV];exact hk),Zy (by rw[yz,hl];exact hk),if_pos hk,if_pos hk,← i3 i hl,VP (by rw[iV]) m hx hne,QF hl m hx hne]
    rw[Int.mul_sub,Int.sub_mul,Int.add_mul,Int.mul_comm (gI (bg X) _) (di _),← Int.mul_assoc]
    omega
end
section
variable {fu:Nat} {s:dh} {x:aj} {L:List aj} {d p q A T:List Int} {a:Int}
theorem ahG{n g v:Int}(h0:0≤n)(h4:n≤4096)(hp: -9223372036854775808≤v∧v<9223372036854775808):pW fu n v g=some (iD n v g):=by
  have k:pW.k1 fu n g (fromV n v)=some (iD n v g):=by
    unfold pW.k1 iD
    by_cases hg:g<0
    · rw[if_pos hg,if_pos hg,bi ae ae]
    · rw[if_neg hg,if_neg hg]
  unfold pW
  rw[dB]
  by_cases h:v<0
  · have:fromV n v=v+n:=if_pos h
    rw[if_pos h,bi ae ae,← this,k]
  · have:fromV n v=v:=if_neg h
    rw[this]at k
    rw[if_neg h,k]
theorem ayZ(hs:Small x)(hft:Fuel fu x)(hc:dQ x=0)(hgd:Good d)(h:wo x.fDims.length p q A T)(hd:d=dN x.fDims p q A T p.length)(hpl:p.length≤4096)(hpr: ∀ v ∈ p, -9223372036854775808≤v∧v<9223372036854775808)(hf:6000<fu):
    ∃ y,aY.c3 fu ⟨49,s,L,x,a⟩ d p A T=some y/\ku x y:=by
  obtain⟨-,hg, -⟩:=gQ.1 hc
  have h8:=hg.1
  have hsl:=qI x.fDims
  have hdl:d.length=x.fDims.length:=by rw[hd,qW]
  unfold aY.c3
  dsimp only
  rw[rJ hg ae,ai,rV ae,ai,dB]
  unfold aY.W1
  refine jC p.length (λm (st:List Int×Int×Int)=>st=(bS x.fDims A T (dK x.fDims) m,oS x.fDims p A T (dK x.fDims) m,(m:Int))) (λr=> ∃ y,r=some y/\ku x y) ?_ ?_ rfl ae
  · rintro m st next hm rfl hx
    dsimp only
    unfold aY.L1
    dsimp only
    obtain⟨a1,a2⟩:=h.in_ m hm
    have hX:=hg.2.1 _ (List.getElem_mem a2)
    rw[← cu a2]at hX
    have hcl:bV (iH (gI T m) 4097) (-4097)=di (gI T m):=rfl
    rw[if_pos (by have:=h.lA;omega),bY (by have:=h.lA;omega),ai,hdl,xU ae,a1,ai]
    dsimp only
    rw[bY (by have:=h.lT;omega),ai,bY a2,ai,bY hm,ai,hcl,ahG hX.1 hX.2 (by rw[cu hm];exact hpr _ (List.getElem_mem _)),ai,bY ae,ai,aI (by rw[AC];omega),Int.toNat_natCast,dL ae]
    exact hx _ rfl
  · rintro st next rfl
    dsimp only
    unfold aY.L1 aY.k4
    dsimp only
    rw[if_neg (by have:=h.lA;omega)]
    obtain⟨y,h1,h2⟩:=Cb (p2:=fun y0=>xm fu y0 (oS x.fDims p A T (dK x.fDims) p.length) (bS x.fDims A T (dK x.fDims) p.length)) hs hft hc hgd ae fun hpos k hk=>by
      obtain⟨i1,i2,i3⟩:=BD hgd hpos hk
      generalize bF d (k:Int)=i at i1 i2 i3
      subst hd
      have hxp:=UE hg h hpos
      rw[qW]at i1
      refine⟨cS x.fDims p A T i p.length,by rw[yz,i1],ayY hg h i1 λb hb=>by have:=i3 b (by rw[qW];exact hb);omega,?_⟩
      have hb:=VQ hg h hpos p.length (Nat.le_refl _)
      obtain⟨r1,r2,r3⟩:=abj hg h hpos p.length (Nat.le_refl _) ae
      have hi4: ∀ b,b<x.fDims.length->0<=gI i b/\gI i b<=4096:=λb hb=>by have:=i3 b (by rw[qW];exact hb);omega
      have rd:=Be hi4 hb x.fDims.length (Nat.le_refl _)
      have hbl:(bS x.fDims A T (bg x.fDims) p.length).length=x.fDims.length:=by rw[AC,iV]
      have hd:=JQ (fu:=fu) (xs:=i) (ys:=bS x.fDims A T (bg x.fDims) p.length) (by rw[hbl];omega) (by rw[hbl];omega) (by rw[hbl];exact hi4) (by rw[hbl];exact hb) ae
      rw[hbl]at hd
      unfold xm
      rw[CY hxp hg,hd,ai,bi ae ae,← qx,← D6 (by rw[yz,iV,i1]),iV,← r3 i i1]
      congr 1
      omega
    rw[h1,ai]
    exact⟨y,rfl,h2⟩
def fG(L:List aj)(i:Nat):List Int:=if(L.getD i noT).fType=0 then []else(L.getD i noT).fI
def tV(L:List aj)(n:Nat):List Int:=if(L.getD 3 noT).fType=0 then(List.range n).map λ(a:Nat)=>(a:Int)else fG L 3
def CV(L:List aj)(n:Nat):List Int:=if(L.getD 4 noT).fType=0 then List.replicate n 1 else fG L 4
theorem GI{i:Nat}(h:i<L.length):at? L (i:Int)=some (L.getD i noT):=by
  rw[at?_get h,List.getD_eq_getElem?_getD,List.getElem?_eq_getElem h];rfl
theorem abe{i:Nat}(h: ¬ i<L.length):(L.getD i noT).fType=0:=by
  rw[List.getD_eq_getElem?_getD,List.getElem?_eq_none ae];rfl
theorem avC(hs:Small x)(hft:Fuel fu x)(hc:dQ x=0)(hgd:Good d)(hL:2<L.length)(h1:(L.getD 1 noT).fType≠0)(h3:fG L 3=(if(L.getD 3 noT).fType=0 then []else(L.getD 3 noT).fI))(hb: ∀ i,(fG L i).length≤4096)
    (h:wo x.fDims.length (fG L 1) (fG L 2) (tV L (fG L 1).length) (CV L (fG L 1).length)) (hd:d=dN x.fDims (fG L 1) (fG L 2) (tV L (fG L 1).length) (CV L (fG L 1).length) (fG L 1).length) (hpr: ∀ v ∈ fG L 1, -9223372036854775808<=v/\v<9223372036854775808) (hf:6000<fu):
    ∃ y,eX fu ⟨49,s,L,x,a⟩ d []=some y/\ku x y:=by
  have hb1:=hb 1
  have hb3:=hb 3
  have hb4:=hb 4
  have a1:at? L (1:Int)=some (L.getD 1 noT):=GI (i:=1) ae
  have n1:fG L 1=(L.getD 1 noT).fI:=if_neg h1
  have key:=ayZ (s:=s) (L:=L) (a:=a) hs hft hc hgd h hd hb1 hpr hf
  have c2: ∃ y,aY.c2 fu ⟨49,s,L,x,a⟩ d (fG L 1) (tV L (fG L 1).length)=some y∧ku x y:=by
    unfold aY.c2
    rw[SY,dB]
    have none_:(L.getD 4 noT).fType=0→ ∃ y,aY.k5 fu ⟨49,s,L,x,a⟩ d (fG L 1) (tV L (fG L 1).length)=some y∧ku x y:=fun h0=>by
      have e:CV L (fG L 1).length=List.replicate (fG L 1).length 1:=if_pos h0
      unfold aY.k5
      dsimp only
      rw[a1,ai]
      unfold aY.W2
      refine jC (fG L 1).length (λm (st:List Int×Int)=>st=(List.replicate m 1,(m:Int))) (λr=> ∃ y,r=some y/\ku x y) ?_ ?_ rfl ae
      · rintro m st next hm rfl hx
        dsimp only
        unfold aY.L2 EM
        rw[if_pos (by rw[← n1];omega),ai,aI (by simp;omega),dL ae,← List.replicate_succ']
        exact hx _ rfl
      · rintro st next rfl
        dsimp only
        unfold aY.L2
        rw[if_neg (by rw[← n1];omega),← e]
        exact key
    dsimp only
    by_cases c:4<(L.length:Int)
    · have a4:at? L (4:Int)=some (L.getD 4 noT):=GI (i:=4) ae
      rw[if_pos c,a4,ai]
      by_cases c0:(L.getD 4 noT).fType=0
      · rw[if_pos c0];exact none_ c0
      · have e:CV L (fG L 1).length=(L.getD 4 noT).fI:=(if_neg c0).trans (if_neg c0)
        have hl:(L.getD 4 noT).fI.length<=4096:=by have:=hb4;rwa[fG,if_neg c0]at this
        rw[if_neg c0]
        unfold aY.W3
        obtain⟨y,hy,hy2⟩:=key
        refine⟨y,?_,hy2⟩
        refine(LX (N:=(L.getD 4 noT).fI.length) ae ae (E:=λj=>at? (L.getD 4 noT).fI j) (e:=gI (L.getD 4 noT).fI) (λk hk=>bY hk) (c:=λm=>aY.c3 fu ⟨49,s,L,x,a⟩ d (fG L 1) (tV L (fG L 1).length) m) (L:=aY.L3 fu ⟨49,s,L,x,a⟩ d (fG L 1) (tV L (fG L 1).length) (L.getD 4 noT)) (λnx m i=>rfl)).trans ?_
        rw[zL,← e]
        exact hy
    · rw[if_neg c]
      exact none_ (abe ae)
  have c1: ∃ y,aY.c1 fu ⟨49,s,L,x,a⟩ d (fG L 1)=some y∧ku x y:=by
    unfold aY.c1
    rw[SY,dB]
    have none_:(L.getD 3 noT).fType=0→ ∃ y,aY.k6 fu ⟨49,s,L,x,a⟩ d (fG L 1)=some y∧ku x y:=fun h0=>by
      have e:tV L (fG L 1).length=(List.range (fG L 1).length).map λ(a:Nat)=>(a:Int):=if_pos h0
      unfold aY.k6
      dsimp only
      rw[a1,ai]
      unfold aY.W4
      refine jC (fG L 1).length (λm (st:List Int×Int)=>st=((List.range m).map (λ(a:Nat)=>(a:Int)),(m:Int))) (λr=> ∃ y,r=some y/\ku x y) ?_ ?_ rfl ae
      · rintro m st next hm rfl hx
        dsimp only
        unfold aY.L4 EL
        rw[if_pos (by rw[← n1];omega),ai,aI (by simp;omega),dL ae]
        refine hx _ ?_
        rw[List.range_succ,List.map_append];rfl
      · rintro st next rfl
        dsimp only
        unfold aY.L4
        rw[if_neg (by rw[← n1];omega),← e]
        exact c2
    dsimp only
    by_cases c:3<(L.length:Int)
    · have a4:at? L (3:Int)=some (L.getD 3 noT):=GI (i:=3) ae
      rw[if_pos c,a4,ai]
      by_cases c0:(L.getD 3 noT).fType=0
      · rw[if_pos c0];exact none_ c0
      · have e:tV L (fG L 1).length=(L.getD 3 noT).fI:=(if_neg c0).trans (if_neg c0)
        have hl:(L.getD 3 noT).fI.length<=4096:=by have:=hb3;rwa[fG,if_neg c0]at this
        rw[if_neg c0]
        unfold aY.W5
        obtain⟨y,hy,hy2⟩:=c2
        refine⟨y,?_,hy2⟩
        refine(LX (N:=(L.getD 3 noT).fI.length) ae ae (E:=λj=>at? (L.getD 3 noT).fI j) (e:=gI (L.getD 3 noT).fI) (λk hk=>bY hk) (c:=λm=>aY.c2 fu ⟨49,s,L,x,a⟩ d (fG L 1) m) (L:=aY.L5 fu ⟨49,s,L,x,a⟩ d (fG L 1) (L.getD 3 noT)) (λnx m i=>rfl)).trans ?_
        rw[zL,← e]
        exact hy
    · rw[if_neg c]
      exact none_ (abe ae)
  have e:eX fu ⟨49,s,L,x,a⟩ d []=(aY fu ⟨49,s,L,x,a⟩ d).bind λy=>some y:=rfl
  obtain⟨y,hy,hy2⟩:=c1
  refine⟨y,?_,hy2⟩
  rw[e]
  suffices h:aY fu ⟨49,s,L,x,a⟩ d=some y by rw[h];rfl
  unfold aY
  rw[SY,dB]
  dsimp only
  rw[if_pos ae,a1,ai,if_neg h1]
  unfold aY.W7
  have hl:(L.getD 1 noT).fI.length<=4096:=by rw[← n1];exact hb1
  refine(LX (N:=(L.getD 1 noT).fI.length) ae ae (E:=λj=>at? (L.getD 1 noT).fI j) (e:=gI (L.getD 1 noT).fI) (λk hk=>bY hk) (c:=λm=>aY.c1 fu ⟨49,s,L,x,a⟩ d m) (L:=aY.L7 fu ⟨49,s,L,x,a⟩ d (L.getD 1 noT)) (λnx m i=>rfl)).trans ?_
  rw[zL,← n1]
  exact hy
end
end Go.Av
namespace Go.Av
section
variable {fu:Nat} {s:dh} {x:aj} {L:List aj} {d X K:List Int} {k:Nat}
structure xW (L:List aj) (X K:List Int) (k:Nat):Prop where
  l1:1<=L.length
  l2:L.length<=64
  lK:K.length=L.length
  hk:k<X.length
  at_: ∀ j,j<L.length-> ∃ t,at? L (j:Int)=some t/\dQ t=0/\t.fDims=X.set k (gI K j)
theorem xW.oW(h:xW L X K k){j:Nat}(hj:j<K.length):0≤gI K j∧gI K j≤4096:=by
  obtain⟨t, -,hc,hd⟩:=h.at_ j (by have:=h.lK;omega)
  have hg:=(gQ.1 hc).2.1
  have hk:=h.hk
  have hkt:k<t.fDims.length:=by rw[hd,List.length_set];exact hk
  have:=hg.2.1 _ (List.getElem_mem hkt)
  rw[← cu,hd,mM hk,if_pos rfl]at this
  exact this
theorem xW.nn(h:xW L X K k): ∀ y ∈ K,0≤y:=fun y hy=>by
  obtain⟨j,hj,rfl⟩:=List.getElem_of_mem hy
  rw[← cu];exact(h.oW hj).1
theorem ai3{fst i:List Int}(h:xW L X K k)(hf1:fst.length=L.length)(hi:i.length=X.length)(h8:X.length≤8)(h0:0≤gI i k)(h1:gI i k<jH K)(hf:6000<fu):
    ∃ v,jW fu i ((List.range L.length).map (sA K)) ⟨47,s,L,x,(k:Int)⟩ fst=some v:=by
  obtain⟨t1,t2,t3⟩:=ady (l:=K) (x:=gI i k) h.nn h0 h1
  have hk:=h.hk
  have hlK:=h.lK
  have hl1:=h.l1
  have hl2:=h.l2
  generalize tP K (gI i k)=t at t1 t2 t3
  have hfa: ∀ j,j<L.length→at? ((List.range L.length).map (sA K)) (j:Int)=some (sA K j):=fun j hj=>by
    rw[at?_get (by simpa using hj)];simp
  unfold jW
  rw[dB]
  unfold jW.W1
  have e0:wk .i64 ((((List.range L.length).map (sA K)).length:Int) - 1)=((L.length - 1:Nat):Int):=by
    simp only[List.length_map,List.length_range]
    rw[bi ae ae];omega
  rw[e0]
  refine jC (L.length - 1 - t) (λm (j:Int)=>j=((L.length - 1 - m:Nat):Int)) (λr=> ∃ v,r=some v) ?_ ?_ rfl ae
  · rintro m j next hm rfl hx
    unfold jW.L1
    dsimp only
    have hmo:=Uy h.nn (j:=t+1) (L.length - 1 - m) ae ae
    rw[xI ae]at hmo
    rw[hfa _ ae,ai,bY ae,ai,if_pos ae,bi ae ae]
    exact hx _ ae
  · rintro j next rfl
    have ht:L.length - 1 - (L.length - 1 - t)=t:=ae
    rw[ht]
    obtain⟨y,hy,hcy,hdy⟩:=h.at_ t ae
    have hgy:=(gQ.1 hcy).2.1
    have hyl:y.fDims.length=X.length:=by rw[hdy,List.length_set]
    have hyk:gI y.fDims k=gI K t:=by rw[hdy,mM hk,if_pos rfl]
    unfold jW.L1
    dsimp only
    rw[hfa _ ae,ai,bY ae,ai,if_neg ae,hy,ai,bY ae,ai,hyk,if_neg ae]
    obtain⟨v,hv⟩:=ZJ (fu:=fu) (xs:=i) (ys:=dK y.fDims) (by rw[qI];omega) (by rw[qI];omega) (by rw[qI];omega)
    unfold jW.k1
    dsimp only
    rw[hy,ai,rJ hgy ae,ai,bY ae,ai,hv,ai,hfa _ ae,ai,bY (by rw[qI];omega),ai]
    exact⟨_,rfl⟩
theorem avA(h:xW L X K k)(hgd:Good d)(hd:d=X.set k (jH K))(hf:500000<fu): ∃ y,eX fu ⟨47,s,L,x,(k:Int)⟩ d []=some y:=by
  have hk:=h.hk
  have hlK:=h.lK
  have hl1:=h.l1
  have hl2:=h.l2
  have h8d:=hgd.1
  have hdl:d.length=X.length:=by rw[hd,List.length_set]
  have hdk:gI d k=jH K:=by rw[hd,mM hk,if_pos rfl]
  have hsa:=Ux (L:=K) λi hi=>h.oW hi
  have e:eX fu ⟨47,s,L,x,(k:Int)⟩ d []=(kV fu ⟨47,s,L,x,(k:Int)⟩ d).bind λy=>some y:=rfl
  rw[e]
  suffices g: ∃ y,kV fu ⟨47,s,L,x,(k:Int)⟩ d=some y by
    obtain⟨y,hy⟩:=g
    rw[hy];exact⟨_,rfl⟩
  unfold kV
  rw[dB]
  unfold kV.W1
  refine jC L.length (λm (st:List Int×List Int×Int×Int×Int)=>st.1.length=m/\st.2.1=(List.range m).map (sA K)/\st.2.2.2.1=sA K m/\st.2.2.2.2=(m:Int)) (λr=> ∃ y,r=some y) ?_ ?_ ⟨rfl,rfl,rfl,rfl⟩ ae
  · rintro m ⟨A,B,u,v,j⟩ next hm ⟨q1,q2,q3,q4⟩ hx
    dsimp only at q1 q2 q3 q4
    subst q2 q3 q4
    obtain⟨y,hy,hcy,hdy⟩:=h.at_ m hm
    have hgy:=(gQ.1 hcy).2.1
    have hyl:y.fDims.length=X.length:=by rw[hdy,List.length_set]
    have hyk:gI y.fDims k=gI K m:=by rw[hdy,mM hk,if_pos rfl]
    have r1:=hsa m ae
    have r2:=h.oW (j:=m) ae
    unfold kV.L1
    dsimp only
    rw[if_pos ae,hy,ai,aI ae,aI (by simp;omega),zS hgy ae,ai,bY ae,ai,hyk,dL ae,bi (x:=sA K m+gI K m) ae ae]
    exact hx (_,_,_,_,_) ⟨by simp[q1],by rw[List.range_succ,List.map_append];rfl,by rw[xI ae],rfl⟩
  · rintro⟨A,B,u,v,j⟩ next ⟨q1,q2,q3,q4⟩
    dsimp only at q1 q2 q3 q4
    subst q2 q3 q4
    unfold kV.L1 kV.k1
    dsimp only
    rw[if_neg ae]
    obtain⟨r,hr,hr1,hr2⟩:=Uu (fu:=fu) (l:=L) ae ae (fun t ht=>by
      obtain⟨j,hj,rfl⟩:=List.getElem_of_mem ht
      obtain⟨y,hy,hcy, -⟩:=h.at_ j hj
      rw[at?_get hj]at hy
      injection hy with hy
      rw[hy];exact(qE hcy).2) hf
    obtain⟨y,hy⟩:=MI (p2:=fun y0=>jW fu y0 ((List.range L.length).map (sA K)) ⟨47,s,L,x,(k:Int)⟩ A) hr1 hr2 hgd ae fun hpos q hq=>by
      obtain⟨i1,i2,i3⟩:=BD hgd hpos hq
      have:=i3 k ae
      exact ai3 h q1 ae ae this.1 ae ae
    rw[hr,ai,hy,ai]
    exact⟨_,rfl⟩
end
end Go.Av
namespace Go.Av
def RES(op:Int)(x y:aj):Prop:=
  (op=46∨op=56∨op=57∨op=58->y.fType=x.fType/\y.fF=x.fF/\y.fI=x.fI/\y.fB=x.fB/\y.fDims.length<=8)/\
  (op=45∨op=49∨op=50∨op=54∨op=55∨op=63∨op=64->ku x y)
theorem zM{op:Int}{x y:aj}(h: ¬ (op=46∨op=56∨op=57∨op=58))(hs:ku x y):RES op x y:=⟨λh'=>absurd h' h,λ_=>hs⟩
theorem xG{op:Int}{x y:aj}(h:op=47∨op=48∨op=51∨op=52∨op=53∨op=59∨op=60∨op=62):RES op x y:=⟨λh'=>by omega,λh'=>by omega⟩
def Fin1(op:Int)(x:aj)(r:Option (List aj×Int)):Prop:= ∃ out e,r=some (out,e)/\(e=0-> ∃ y,out=[y]/\RES op x y)
theorem ng{op:Int}{x:aj}{l:List aj}{e:Int}(h:e≠0):Fin1 op x (some (l,e)):=⟨l,e,rfl,λh0=>absurd h0 h⟩
structure Ctx (fu:Nat) (op:Int) (s:dh) (T:List aj):Prop where
  ok:iZ op
  set:wu fu s
  tens:Ah fu T
  good: ∀ t ∈ T,t.fType=0∨dQ t=0
  oW: ∀ t ∈ T,∀ z ∈ t.fI, -9223372036854775808<=z/\z<9223372036854775808
  st0: -9223372036854775808<=s.fStart
  st1:s.fStart<9223372036854775808
  en0: -9223372036854775808<=s.fEnd
  en1:s.fEnd<9223372036854775808
  fuel:600000<fu
def tI(T:List aj)(i:Nat):aj:=T.getD i noT
section
variable {fu:Nat} {op:Int} {s:dh} {T:List aj}
theorem Fz{i:Nat}(h:i<T.length):tI T i ∈ T:=by
  unfold tI
  rw[List.getD_eq_getElem?_getD,List.getElem?_eq_getElem h]
  exact List.getElem_mem h
theorem UH{i:Nat}(h: ¬ i<T.length):tI T i=noT:=by
  unfold tI
  rw[List.getD_eq_getElem?_getD,List.getElem?_eq_none ae];rfl
theorem Dv{i:Nat}:vl (T.map valOf) i=valOf (tI T i):=by
  by_cases h:i<T.length
  · unfold vl tI
    rw[List.getD_eq_getElem?_getD,List.getD_eq_getElem?_getD,List.getElem?_map,List.getElem?_eq_getElem h];rfl
  · rw[UH h]
    unfold vl
    rw[List.getD_eq_getElem?_getD,List.getElem?_map,List.getElem?_eq_none ae];rfl
theorem yA{i:Nat}:(T.map aF).getD i noT=aF (tI T i):=by
  by_cases h:i<T.length
  · unfold tI
    rw[List.getD_eq_getElem?_getD,List.getD_eq_getElem?_getD,List.getElem?_map,List.getElem?_eq_getElem h];rfl
  · rw[UH h,List.getD_eq_getElem?_getD,List.getElem?_map,List.getElem?_eq_none ae];rfl
theorem sD{i:Nat}(h:i<T.length):at? (T.map aF) (i:Int)=some (aF (tI T i)):=by
  rw[GI (by simpa using h),yA]
theorem aAB{t:aj}:(valOf t).fType=t.fType:=by
  unfold valOf
  split
  · rename_i h;rw[h];rfl
  · rfl
theorem oG{i:Nat}:(vl (T.map valOf) i).fType=(tI T i).fType:=by rw[Dv,aAB]
theorem xP{i:Nat}(h:(tI T i).fType≠0):(vl (T.map valOf) i).fDims=(tI T i).fDims:=by rw[Dv];unfold valOf;rw[if_neg h]
theorem zZ{i:Nat}(h:(tI T i).fType≠0):i<T.length:=by
  by_cases c:i<T.length
  · exact c
  · rw[UH c]at h;exact absurd rfl h
theorem xy{i:Nat}:nm (T.map valOf) i=fG (T.map aF) i:=by
  unfold nm fG
  rw[oG,yA]
  show _=if(tI T i).fType=0 then []else(tI T i).fI
  split
  · rfl
  · rename_i h;rw[Dv];unfold valOf;rw[if_neg h]
theorem ahw{n:Nat}:lU (T.map valOf) n=tV (T.map aF) n:=by
  unfold lU tV
  rw[oG,yA,xy];rfl
theorem azp{n:Nat}:oZ (T.map valOf) n=CV (T.map aF) n:=by
  unfold oZ CV
  rw[oG,yA,xy];rfl
theorem Ctx.chk(c:Ctx fu op s T){i:Nat}(h:(tI T i).fType≠0):dQ (tI T i)=0:=(c.good _ (Fz (zZ h))).resolve_left h
theorem Ctx.hd(c:Ctx fu op s T)(i:Nat)(h:(vl (T.map valOf) i).fType≠0):HD fu (vl (T.map valOf) i):=by
  rw[oG]at h
  have ht:=c.tens.2.2 _ (Fz (zZ h))
  rw[Dv]
  unfold valOf
  rw[if_neg h]
  exact⟨rfl,c.chk h,rfl,rfl,ht.1.small,ht.2⟩
theorem Ctx.gd(c:Ctx fu op s T)(i:Nat):Good (vl (T.map valOf) i).fDims:=by
  by_cases h:(tI T i).fType=0
  · rw[Dv];unfold valOf;rw[if_pos h];exact aaj
  · rw[xP h];exact(gQ.1 (c.chk h)).2.1
theorem Ctx.gm(c:Ctx fu op s T): ∀ v ∈ T.map valOf,Good v.fDims:=fun v hv=>by
  obtain⟨t,ht,rfl⟩:=List.mem_map.1 hv
  unfold valOf
  split
  · exact aaj
  · rename_i h;exact(gQ.1 ((c.good t ht).resolve_left h)).2.1
theorem Ctx.nmr(c:Ctx fu op s T)(i:Nat): ∀ x ∈ nm (T.map valOf) i, -9223372036854775808≤x∧x<9223372036854775808:=fun x hx=>by
  rw[xy]at hx
  unfold fG at hx
  rw[yA]at hx
  split at hx
  · cases hx
  · rename_i h;exact c.oW _ (Fz (zZ h)) x hx
theorem Ctx.nml(c:Ctx fu op s T)(i:Nat):(fG (T.map aF) i).length<=4096:=by rw[← xy];exact rE i (c.hd i)
structure Fst (fu:Nat) (T:List aj) (x:aj):Prop where
  len:1<=T.length
  eq:x=aF (tI T 0)
  ty:(tI T 0).fType≠0
  chk:dQ x=0
  sm:Small x
  fl:Fuel fu x
  dm:(vl (T.map valOf) 0).fDims=x.fDims
theorem Ctx.fst(c:Ctx fu op s T)(hF:Full op (T.map valOf)):Fst fu T (aF (tI T 0)):=by
  have ha:=Pm c.ok
  have h0:=hF.2.2 0 ae
  rw[oG]at h0
  have hl:=zZ h0
  have ht:=c.tens.2.2 _ (Fz hl)
  exact⟨by omega,rfl,h0,by rw[sF];exact c.chk h0,ai1 ht.1,Xz ht.2,xP h0⟩
theorem Ctx.node(c:Ctx fu op s T){R:List Int→Prop}{Q:Option (List aj×Int)→Prop}(hR: ∀ d,R d→d.length≤4096)
    (hm:Full op (T.map valOf)->AH op s (T.map valOf)->bu R (dA fu ⟨op,s,T.map valOf,1⟩))
    (hb: ∀ l e,e≠0->Q (some (l,e)))
    (hg:Full op (T.map valOf)->AH op s (T.map valOf)-> ∀ d,R d->Good d->kP fu op s (T.map valOf) 1=some ([rF (MH op s (T.map valOf)) d],0)->Q (dW.k1 fu op s T 1 (T.map aF))):Q (dW.k1 fu op s T 1 (T.map aF)):=by
  obtain⟨vs,e,h1,h2⟩:=avi c.ok c.set c.gm c.hd hR hm (by have:=c.fuel;omega)
  by_cases h0:e=0
  · subst h0
    obtain⟨hF,hA,d,rfl,hd,hgd⟩:=h2 rfl
    exact hg hF hA d hd hgd h1
  · unfold dW.k1
    rw[Ai c.tens,ai,h1,ai]
    dsimp only
    rw[if_neg h0]
    exact hb _ _ h0
def nO(s:dh)(n:Nat):Int:=match iC s.fAxis n with|some k=>k|none=>0
theorem GM{n:Nat}(hn:n≤100): ∃ e,og fu s.fAxis (n:Int)=some (nO s n,e):=by
  rw[xU hn]
  unfold nO
  cases iC s.fAxis n with
  |none=>exact⟨_,rfl⟩
  |some k=>exact⟨_,rfl⟩
theorem GK{n k:Nat}(h:iC s.fAxis n=some (k:Int)):nO s n=(k:Int):=by unfold nO;rw[h]
theorem ry(c:Ctx fu op s T)(hF:Full op (T.map valOf)){ty:Int}{d:List Int}(hop:op≠48∧op≠50∧op≠51∧op≠52)(hN:kP fu op s (T.map valOf) 1=some ([rF ty d],0))
    (h: ∃ y,eX fu ⟨op,s,T.map aF,aF (tI T 0),nO s (aF (tI T 0)).fDims.length⟩ d []=some y/\RES op (aF (tI T 0)) y):Fin1 op (aF (tI T 0)) (dW.k1 fu op s T 1 (T.map aF)):=by
  have hf:=c.fst hF
  obtain⟨y,h1,h2⟩:=h
  have h8:=(gQ.1 hf.chk).2.1.1
  obtain⟨e,he⟩:=GM (fu:=fu) (s:=s) (n:=(aF (tI T 0)).fDims.length) ae
  have h0:at? (T.map aF) (0:Int)=some (aF (tI T 0)):=sD (i:=0) hf.len
  unfold dW.k1
  rw[Ai c.tens,ai,hN,ai]
  dsimp only
  rw[if_pos rfl,h0,ai,he,ai,if_neg hop.2.1,if_neg hop.2.2.1,if_neg hop.2.2.2,if_neg hop.1]
  show Fin1 _ _ ((some (rF ty d)).bind _)
  rw[ai]
  show Fin1 _ _ ((eX fu ⟨op,s,T.map aF,aF (tI T 0),nO s (aF (tI T 0)).fDims.length⟩ d []).bind _)
  rw[h1,ai]
  exact⟨_,_,rfl,λ_=>⟨y,rfl,h2⟩⟩
theorem aaN(c:Ctx fu op s T)(hF:Full op (T.map valOf)){ty:Int}{d:List Int}{k:Nat}(hop:op=50∨op=51)(hk:iC s.fAxis (aF (tI T 0)).fDims.length=some (k:Int))(hkl:k<(aF (tI T 0)).fDims.length)(h1:(tI T 1).fType≠0)(hN:kP fu op s (T.map valOf) 1=some ([rF ty d],0))
    (h:(∀ e ∈ (aF (tI T 1)).fI,0<=wv (gI (aF (tI T 0)).fDims k) e/\wv (gI (aF (tI T 0)).fDims k) e<gI (aF (tI T 0)).fDims k)-> ∃ y,eX fu ⟨op,s,T.map aF,aF (tI T 0),(k:Int)⟩ d ((aF (tI T 1)).fI.map (wv (gI (aF (tI T 0)).fDims k)))=some y/\RES op (aF (tI T 0)) y):Fin1 op (aF (tI T 0)) (dW.k1 fu op s T 1 (T.map aF)):=by
  have hf:=c.fst hF
  have h8:=(gQ.1 hf.chk).2.1.1
  have hfu:=c.fuel
  obtain⟨e,he⟩:=GM (fu:=fu) (s:=s) (n:=(aF (tI T 0)).fDims.length) ae
  rw[GK hk]at he
  have h0:at? (T.map aF) (0:Int)=some (aF (tI T 0)):=sD (i:=0) hf.len
  have ha1:at? (T.map aF) (1:Int)=some (aF (tI T 1)):=sD (i:=1) (zZ h1)
  have hly:=qE (t:=aF (tI T 1)) (by rw[sF];exact c.chk h1)
  have hnm:=TN (fu:=fu) (op:=op) (s:=s) (L:=T.map aF) (x:=aF (tI T 0)) (k:=k) ha1 (bY hkl) ae ae
  have hno: ¬ op=48:=ae
  unfold dW.k1
  rw[Ai c.tens,ai,hN,ai]
  dsimp only
  rw[if_pos rfl,h0,ai,he,ai]
  dsimp only
  rcases hnm with⟨hn1,hn2⟩|⟨-,hn1⟩
  · obtain⟨y,hy1,hy2⟩:=h hn2
    by_cases uT:op=50
    · rw[if_pos uT,hn1,ai,if_pos rfl,if_neg hno]
      show Fin1 _ _ ((some (rF ty d)).bind _)
      rw[ai]
      show Fin1 _ _ ((eX fu ⟨op,s,T.map aF,aF (tI T 0),(k:Int)⟩ d ((aF (tI T 1)).fI.map (wv (gI (aF (tI T 0)).fDims k)))).bind _)
      rw[hy1,ai]
      exact⟨_,_,rfl,λ_=>⟨y,rfl,hy2⟩⟩
    · rw[if_neg uT,if_pos ae,hn1,ai,if_pos rfl,if_neg hno]
      show Fin1 _ _ ((some (rF ty d)).bind _)
      rw[ai]
      show Fin1 _ _ ((eX fu ⟨op,s,T.map aF,aF (tI T 0),(k:Int)⟩ d ((aF (tI T 1)).fI.map (wv (gI (aF (tI T 0)).fDims k)))).bind _)
      rw[hy1,ai]
      exact⟨_,_,rfl,λ_=>⟨y,rfl,hy2⟩⟩
  · by_cases uT:op=50
    · rw[if_pos uT,hn1,ai,if_neg au];exact ng au
    · rw[if_neg uT,if_pos ae,hn1,ai,if_neg au];exact ng au
theorem asy(c:Ctx fu 48 s T)(hF:Full 48 (T.map valOf)){ty:Int}{k:Nat}(hk:iC s.fAxis (aF (tI T 0)).fDims.length=some (k:Int))(hkl:k<(aF (tI T 0)).fDims.length)(hN:kP fu 48 s (T.map valOf) 1=some ([rF ty (aF (tI T 0)).fDims],0)):
    Fin1 48 (aF (tI T 0)) (dW.k1 fu 48 s T 1 (T.map aF)):=by
  have hf:=c.fst hF
  have h8:=(gQ.1 hf.chk).2.1.1
  have hfu:=c.fuel
  obtain⟨e,he⟩:=GM (fu:=fu) (s:=s) (n:=(aF (tI T 0)).fDims.length) ae
  rw[GK hk]at he
  have h0:at? (T.map aF) (0:Int)=some (aF (tI T 0)):=sD (i:=0) hf.len
  obtain⟨y,hy⟩:=azg (s:=s) (L:=T.map aF) (ty:=ty) hf.sm hf.fl hf.chk hkl ae
  unfold dW.k1
  rw[Ai c.tens,ai,hN,ai]
  dsimp only
  rw[if_pos rfl,h0,ai,he,ai]
  dsimp only
  rw[if_neg au,if_neg au,if_neg au,if_pos rfl,hy,ai]
  exact⟨_,_,rfl,λ_=>⟨y,rfl,xG ae⟩⟩
end
end Go.Av
namespace Go.Av
section
variable {fu:Nat} {s:dh} {T:List aj}
theorem Ctx.d8{op:Int}(c:Ctx fu op s T):(vl (T.map valOf) 0).fDims.length<=8:=(c.gd 0).1
theorem TI{op:Int}{l:List aP}{i:Nat}(h:TY op l i)(h0:(vl l i).fType≠0)(hl:lt op i=105):(vl l i).fType=7:=by
  have:=(h h0).2
  rw[hl]at this
  unfold Bj at this
  rw[if_neg au,if_neg au,if_neg au,if_pos rfl]at this
  simpa using this
theorem alH(c:Ctx fu 45 s T):Fin1 45 (aF (tI T 0)) (dW.k1 fu 45 s T 1 (T.map aF)):=by
  have hfu:=c.fuel
  refine c.node (R:=fun d=>mi (pV s (vl (T.map valOf) 0).fDims.length) (vl (T.map valOf) 0).fDims.length∧d=act (pV s (vl (T.map valOf) 0).fDims.length) (vl (T.map valOf) 0).fDims) (fun d ⟨h1,h2⟩=>by
    rw[h2,lQ,h1.len];have:=c.d8;omega) (λhF hA=> ?_) (λl e h=>ng h) (λhF hA d hd hgd hN=> ?_)
  · have hp:=awt (hA.at_.perm rfl)
    exact bu.mono (az8 (c.gd 0) c.set hp ae) λd h=>⟨hp,h⟩
  · have hf:=c.fst hF
    obtain⟨h1,h2⟩:=hd
    rw[hf.dm]at h1 h2
    obtain⟨y,hy,hs⟩:=avz (L:=T.map aF) (a:=nO s (aF (tI T 0)).fDims.length) hf.sm hf.fl hf.chk c.set h1 h2 ae
    exact ry c hF au hN ⟨y,hy,zM au hs⟩
theorem JP{op:Int}(c:Ctx fu op s T)(hop:op=46∨op=56∨op=57∨op=58):Fin1 op (aF (tI T 0)) (dW.k1 fu op s T 1 (T.map aF)):=by
  have hfu:=c.fuel
  refine c.node (R:=λd=>d.length<=4096) (λd h=>h) (λhF hA=> ?_) (λl e h=>ng h) (λhF hA d hd hgd hN=> ?_)
  · rcases hop with rfl|rfl|rfl|rfl
    · exact aux (axx (c.gd 0) (c.hd 1) ae)
    · exact auE (bu.mono (adg (.inl rfl) (c.gd 0) (c.hd 1) ae) λd h=>by omega)
    · exact auF (bu.mono (adg (.inr rfl) (c.gd 0) (c.hd 1) ae) λd h=>by omega)
    · exact BN (.inl rfl) (bu.mono (anx (c.gd 0) (hA.at_.flat rfl) ae) λd h=>by omega)
  · have hd8:=hgd.1
    refine ry c hF ae hN ⟨⟨(aF (tI T 0)).fType,d,(aF (tI T 0)).fF,(aF (tI T 0)).fI,(aF (tI T 0)).fB⟩,?_,λ_=>⟨rfl,rfl,rfl,rfl,hd8⟩,λh=>by omega⟩
    rcases hop with rfl|rfl|rfl|rfl <;> rfl
theorem alI(c:Ctx fu 47 s T):Fin1 47 (aF (tI T 0)) (dW.k1 fu 47 s T 1 (T.map aF)):=by
  have hfu:=c.fuel
  refine c.node (R:=fun d=> ∃ k:Nat,iC s.fAxis (vl (T.map valOf) 0).fDims.length=some (k:Int)∧k<(vl (T.map valOf) 0).fDims.length∧U7 (T.map valOf) k d) (fun d ⟨k,_,_,h⟩=>by
    rw[h.1,List.length_set];have:=c.d8;omega) (λhF hA=> ?_) (λl e h=>ng h) (λhF hA d hd hgd hN=> ?_)
  · obtain⟨k,k1,k2⟩:=hA.at_.axis (.inl rfl)
    have h1:=hF.1
    have h2:=hF.2.1
    have e1:(ar 47).1=1:=by decide
    have e2:(ar 47).2.1=64:=by decide
    exact auy (bu.mono (ak9 ae ae c.gd k1 k2 ae) λd h=>⟨k,k1,k2,h⟩)
  · have hf:=c.fst hF
    obtain⟨k,k1,k2,h1,h2⟩:=hd
    have h3:=hF.2.1
    have e2:(ar 47).2.1=64:=by decide
    have hl1:=hf.len
    simp only[List.length_map]at h3 h2
    rw[hf.dm]at k1 k2 h1
    have hcat:xW (T.map aF) (aF (tI T 0)).fDims (kL (T.map valOf) k) k:=⟨by simpa using hl1,by simp;omega,by rw[vC];simp,k2,fun j hj=>by
      have hj':j<T.length:=by simpa using hj
      have e:=h2 j hj'
      rw[hf.dm]at e
      have ht:(tI T j).fType≠0:=fun h0=>by
        have:(vl (T.map valOf) j).fDims=[]:=by rw[Dv];unfold valOf;rw[if_pos h0];rfl
        rw[this]at e
        have hh:=congrArg List.length e
        rw[List.length_set]at hh
        simp at hh
        omega
      rw[xP ht]at e
      exact⟨_,sD hj',by rw[sF];exact c.chk ht,e⟩⟩
    obtain⟨y,hy⟩:=avA (fu:=fu) (s:=s) (x:=aF (tI T 0)) hcat hgd h1 ae
    exact ry c hF au hN ⟨y,by rw[GK k1];exact hy,xG ae⟩
theorem alJ(c:Ctx fu 48 s T):Fin1 48 (aF (tI T 0)) (dW.k1 fu 48 s T 1 (T.map aF)):=by
  have hfu:=c.fuel
  refine c.node (R:=λd=>d=(vl (T.map valOf) 0).fDims) (λd h=>by rw[h];have:=c.d8;omega) (λhF hA=> ?_) (λl e h=>ng h) (λhF hA d hd hgd hN=> ?_)
  · obtain⟨k,k1,k2⟩:=hA.at_.axis au
    refine auz (azf (c.gd 0) (c.hd 1) (λx hx=> ?_) k1 k2 ae)
    have h0:(vl (T.map valOf) 1).fType≠0:=λh=>by rw[ER h]at hx;cases hx
    refine(hA.tld 1 au au h0).2 au x ?_
    rwa[nm,if_neg h0]at hx
  · have hf:=c.fst hF
    obtain⟨k,k1,k2⟩:=hA.at_.axis au
    rw[hf.dm]at k1 k2 hd
    rw[hd]at hN
    exact asy c hF k1 k2 hN
theorem alK(c:Ctx fu 49 s T):Fin1 49 (aF (tI T 0)) (dW.k1 fu 49 s T 1 (T.map aF)):=by
  have hfu:=c.fuel
  refine c.node (λd ⟨h1,h2⟩=>by rw[h2,qW];have:=c.d8;omega) (λhF hA=>auA (ay0 (c.gd 0) c.hd c.nmr ae)) (λl e h=>ng h) (λhF hA d hd hgd hN=> ?_)
  have hf:=c.fst hF
  obtain⟨h1,h2⟩:=hd
  rw[hf.dm,xy,xy,ahw,azp]at h1 h2
  have e1:(ar 49).1=3:=by decide
  have hl:=hF.1
  simp only[List.length_map]at hl
  have t1:=hF.2.2 1 ae
  rw[oG]at t1
  obtain⟨y,hy,hs⟩:=avC (s:=s) (L:=T.map aF) (a:=nO s (aF (tI T 0)).fDims.length) hf.sm hf.fl hf.chk hgd (by simp;omega) (by rw[yA];exact t1) rfl c.nml h1 h2 (by rw[← xy];exact c.nmr 1) ae
  exact ry c hF au hN ⟨y,hy,zM au hs⟩
theorem alL(c:Ctx fu 50 s T):Fin1 50 (aF (tI T 0)) (dW.k1 fu 50 s T 1 (T.map aF)):=by
  have hfu:=c.fuel
  refine c.node (R:=fun d=> ∃ k:Nat,iC s.fAxis (vl (T.map valOf) 0).fDims.length=some (k:Int)∧k<(vl (T.map valOf) 0).fDims.length∧d=(vl (T.map valOf) 0).fDims.take k++(vl (T.map valOf) 1).fDims++(vl (T.map valOf) 0).fDims.drop (k+1)) (fun d ⟨k,_,_,h⟩=>by
    rw[h];have:=c.d8;have:=(c.gd 1).1;simp only[List.length_append,List.length_take,List.length_drop];omega) (λhF hA=> ?_) (λl e h=>ng h) (λhF hA d hd hgd hN=> ?_)
  · obtain⟨k,k1,k2⟩:=hA.at_.axis au
    exact bu.mono (apd (c.gd 0) (c.gd 1) k1 k2 ae) λd h=>⟨k,k1,k2,h⟩
  · have hf:=c.fst hF
    obtain⟨k,k1,k2,h1⟩:=hd
    have e1:(ar 50).1=2:=by decide
    have hl:=hF.1
    simp only[List.length_map]at hl
    have t1:=hF.2.2 1 ae
    have t7:=TI (hA.ty 1 (by simp;omega)) t1 au
    rw[oG]at t1 t7
    rw[hf.dm]at k1 k2 h1
    rw[xP t1]at h1
    refine aaN c hF (.inl rfl) k1 k2 t1 hN λhn=> ?_
    obtain⟨y,hy,hs⟩:=avD (s:=s) (L:=T.map aF) (y:=aF (tI T 1)) hf.sm hf.fl hf.chk (by rw[sF];exact c.chk t1) t7 (sD (i:=1) ae) k2 hgd h1 hn ae
    exact⟨y,hy,zM au hs⟩
theorem alM(c:Ctx fu 51 s T):Fin1 51 (aF (tI T 0)) (dW.k1 fu 51 s T 1 (T.map aF)):=by
  have hfu:=c.fuel
  refine c.node (R:=fun d=> ∃ k:Nat,iC s.fAxis (vl (T.map valOf) 0).fDims.length=some (k:Int)∧k<(vl (T.map valOf) 0).fDims.length∧d=(vl (T.map valOf) 1).fDims∧Fits (vl (T.map valOf) 0).fDims (vl (T.map valOf) 1).fDims k) (fun d ⟨k,_,_,h,_⟩=>by
    rw[h];have:=(c.gd 1).1;omega) (λhF hA=> ?_) (λl e h=>ng h) (λhF hA d hd hgd hN=> ?_)
  · obtain⟨k,k1,k2⟩:=hA.at_.axis au
    exact bu.mono (apg c.d8 k1 ae) λd h=>⟨k,k1,k2,h⟩
  · have hf:=c.fst hF
    obtain⟨k,k1,k2,h1,h2⟩:=hd
    have e1:(ar 51).1=2:=by decide
    have hl:=hF.1
    simp only[List.length_map]at hl
    have t1:=hF.2.2 1 ae
    have t7:=TI (hA.ty 1 (by simp;omega)) t1 au
    rw[oG]at t1 t7
    rw[hf.dm]at k1 k2 h2
    rw[xP t1]at h1 h2
    refine aaN c hF (.inr rfl) k1 k2 t1 hN λhn=> ?_
    obtain⟨y,hy⟩:=avE (s:=s) (L:=T.map aF) (y:=aF (tI T 1)) (d:=d) hf.sm hf.fl hgd hf.chk (by rw[sF];exact c.chk t1) t7 (sD (i:=1) ae) h2 k2 hn ae
    exact⟨y,hy,xG ae⟩
theorem alO(c:Ctx fu 53 s T):Fin1 53 (aF (tI T 0)) (dW.k1 fu 53 s T 1 (T.map aF)):=by
  have hfu:=c.fuel
  refine c.node (λd ⟨h1,h2⟩=>by rw[h1];have:=c.d8;omega) (λhF hA=>auB (awu (c.gd 0) (c.hd 1) ae)) (λl e h=>ng h) (λhF hA d hd hgd hN=> ?_)
  have hf:=c.fst hF
  obtain⟨h1,h2⟩:=hd
  rw[hf.dm]at h1 h2
  obtain⟨y,hy⟩:=avF (s:=s) (L:=T.map aF) (a:=nO s (aF (tI T 0)).fDims.length) (z:=aF (tI T 1)) hf.sm hf.fl hf.chk hgd h1 (fun h0=>by
    have t1:(vl (T.map valOf) 1).fType≠0:=λh=>by rw[ER h]at h2;simp at h2;omega
    rw[xy]at h2
    rw[oG]at t1
    refine⟨sD (i:=1) (zZ t1),?_⟩
    rw[fG,yA,if_neg (show ¬ (aF (tI T 1)).fType=0 from t1)]at h2
    omega) (λt ht h0=>by
    by_cases hc:2<T.length
    · have e2:at? (T.map aF) (2:Int)=some (aF (tI T 2)):=sD (i:=2) hc
      rw[e2]at ht
      injection ht with ht
      subst ht
      exact(qE (by rw[sF];exact c.chk h0)).2
    · have:at? (T.map aF) (2:Int)=none:=by
        show at? _ ((2:Nat):Int)=none
        rw[at?_nat,List.getElem?_eq_none (by simp;omega)]
      rw[this]at ht;cases ht) ae
  exact ry c hF au hN ⟨y,hy,xG ae⟩
theorem alP(c:Ctx fu 54 s T):Fin1 54 (aF (tI T 0)) (dW.k1 fu 54 s T 1 (T.map aF)):=by
  have hfu:=c.fuel
  refine c.node (λd ⟨h1,h2⟩=>by rw[h1];have:=c.d8;omega) (λhF hA=>auC (azZ (c.gd 0) (c.hd 1) (λx hx=> ?_) ae)) (λl e h=>ng h) (λhF hA d hd hgd hN=> ?_)
  · have h0:(vl (T.map valOf) 1).fType≠0:=fun h=>by rw[ER h]at hx;cases hx
    refine(hA.tld 1 au au h0).2 au x ?_
    rwa[nm,if_neg h0]at hx
  · have hf:=c.fst hF
    rw[hf.dm]at hd
    obtain⟨y,hy,hs⟩:=avG (s:=s) (L:=T.map aF) (a:=nO s (aF (tI T 0)).fDims.length) hf.sm hf.fl hf.chk hgd hd ae
    exact ry c hF au hN ⟨y,hy,zM au hs⟩
theorem alQ(c:Ctx fu 55 s T):Fin1 55 (aF (tI T 0)) (dW.k1 fu 55 s T 1 (T.map aF)):=by
  have hfu:=c.fuel
  refine c.node (R:=λd=>d.length<=8/\DD (vl (T.map valOf) 0).fDims d) (λd h=>by have:=h.1;omega) (λhF hA=>auD (aAL (c.gd 0) (c.hd 1) ae)) (λl e h=>ng h) (λhF hA d hd hgd hN=> ?_)
  have hf:=c.fst hF
  rw[hf.dm]at hd
  obtain⟨y,hy,hs⟩:=avH (s:=s) (L:=T.map aF) (a:=nO s (aF (tI T 0)).fDims.length) hf.sm hf.fl hf.chk hgd hd.2 ae
  exact ry c hF au hN ⟨y,hy,zM au hs⟩
theorem alR(c:Ctx fu 59 s T):Fin1 59 (aF (tI T 0)) (dW.k1 fu 59 s T 1 (T.map aF)):=by
  have hfu:=c.fuel
  refine c.node (λd h=>by rw[h];simp) (λhF hA=>BN au (ayK c.d8 c.st0 c.st1 c.en0 c.en1)) (λl e h=>ng h) (λhF hA d hd hgd hN=> ?_)
  have hf:=c.fst hF
  rw[hf.dm]at hd
  obtain⟨y,hy⟩:=avI (fu:=fu) (s:=s) (L:=T.map aF) (a:=nO s (aF (tI T 0)).fDims.length) hf.chk c.st0 c.st1 hd ae
  exact ry c hF au hN ⟨y,hy,xG ae⟩
theorem alS(c:Ctx fu 60 s T):Fin1 60 (aF (tI T 0)) (dW.k1 fu 60 s T 1 (T.map aF)):=by
  have hfu:=c.fuel
  refine c.node (λd h=>by rw[h];simp) (λhF hA=>BN au ayU) (λl e h=>ng h) (λhF hA d hd hgd hN=> ?_)
  have hf:=c.fst hF
  obtain⟨y,hy⟩:=avJ (fu:=fu) (s:=s) (d:=d) (L:=T.map aF) (a:=nO s (aF (tI T 0)).fDims.length) hf.chk ae
  exact ry c hF au hN ⟨y,hy,xG ae⟩
theorem alT(c:Ctx fu 62 s T):Fin1 62 (aF (tI T 0)) (dW.k1 fu 62 s T 1 (T.map aF)):=by
  have hfu:=c.fuel
  refine c.node (λd h=>h) (λhF hA=>BN au (alc (c.hd 0) ae)) (λl e h=>ng h) (λhF hA d hd hgd hN=> ?_)
  have hf:=c.fst hF
  obtain⟨y,hy⟩:=avK (fu:=fu) (s:=s) (d:=d) (L:=T.map aF) (a:=nO s (aF (tI T 0)).fDims.length) hf.chk c.set (hA.at_.value rfl).1 hgd ae
  exact ry c hF au hN ⟨y,hy,xG ae⟩
theorem alU(c:Ctx fu 63 s T):Fin1 63 (aF (tI T 0)) (dW.k1 fu 63 s T 1 (T.map aF)):=by
  have hfu:=c.fuel
  refine c.node (λd ⟨A,C,H,W,B,_,_,h⟩=>by rw[h];simp[dS]) (λhF hA=>BN au (alE (c.gd 0) (hA.at_.block au))) (λl e h=>ng h) (λhF hA d hd hgd hN=> ?_)
  have hf:=c.fst hF
  rw[hf.dm]at hd
  obtain⟨y,hy,hs⟩:=avL (s:=s) (l:=T.map aF) (ax:=nO s (aF (tI T 0)).fDims.length) hf.sm hf.fl hf.chk hgd hd ae
  exact ry c hF au hN ⟨y,hy,zM au hs⟩
theorem alV(c:Ctx fu 64 s T):Fin1 64 (aF (tI T 0)) (dW.k1 fu 64 s T 1 (T.map aF)):=by
  have hfu:=c.fuel
  refine c.node (λd ⟨A,C,H,W,B,_,_,h⟩=>by rw[h];simp[dD]) (λhF hA=>BN au (azh (c.gd 0) (hA.at_.block au))) (λl e h=>ng h) (λhF hA d hd hgd hN=> ?_)
  have hf:=c.fst hF
  rw[hf.dm]at hd
  obtain⟨y,hy,hs⟩:=avM (s:=s) (l:=T.map aF) (ax:=nO s (aF (tI T 0)).fDims.length) hf.sm hf.fl hf.chk hgd hd ae
  exact ry c hF au hN ⟨y,hy,zM au hs⟩
theorem alX{op:Int}(c:Ctx fu op s T)(h52:op≠52):Fin1 op (aF (tI T 0)) (dW.k1 fu op s T 1 (T.map aF)):=by
  rcases abm c.ok with rfl|rfl|rfl|rfl|rfl|rfl|rfl|rfl|rfl|rfl|rfl|rfl|rfl|rfl|rfl|rfl|rfl|rfl|rfl
  · exact alH c
  · exact JP c au
  · exact alI c
  · exact alJ c
  · exact alK c
  · exact alL c
  · exact alM c
  · exact absurd rfl h52
  · exact alO c
  · exact alP c
  · exact alQ c
  · exact JP c au
  · exact JP c au
  · exact JP c au
  · exact alR c
  · exact alS c
  · exact alT c
  · exact alU c
  · exact alV c
end
end Go.Av
namespace Go.Av
theorem aAA{x:Int}(h0:0≤x)(h1:x<4294967296):wk .u32 x=x:=by
  have:wk .u32 x=x%4294967296:=by simp[wk,IntKind.wrap,IntKind.signed,IntKind.bits]
  rw[this,Int.emod_eq_of_lt h0 h1]
theorem aAe{i j:Nat}(h:i<=j):(2:Nat) ^ i<=2 ^ j:=Nat.pow_le_pow_right au h
theorem auo{k:Nat}(hk:k<=64):min ((k:Nat):Int).toNat IntKind.u64.bits=k:=by simp[IntKind.bits];omega
theorem aAd(k:Nat):((2 ^ k:Nat):Int)=(2:Int) ^ k:=by rw[Int.natCast_pow];rfl
theorem ayM{a n:Nat}:(a:Int).fdiv ((2:Int) ^ n)=((a / 2 ^ n:Nat):Int):=by
  rw[← aAd,Int.fdiv_eq_ediv_of_nonneg _ (Int.natCast_nonneg _)]
  exact(Int.natCast_ediv a (2 ^ n)).symm
theorem aca{a k:Nat}{b:Nat}(ha:a<2 ^ b)(hk:b<=k):a / 2 ^ k=0:=Nat.div_eq_of_lt (Nat.lt_of_lt_of_le ha (aAe hk))
theorem UD{a k:Nat}(h:a<18446744073709551616):jG .u64 (a:Int) (k:Int)=((a / 2 ^ k:Nat):Int):=by
  unfold jG
  rw[ayM]
  by_cases hk:k<=64
  · rw[auo hk]
  · rw[show min ((k:Nat):Int).toNat IntKind.u64.bits=64 by simp[IntKind.bits];omega,aca (b:=64) (by simpa using h) (Nat.le_refl _),aca (b:=64) (by simpa using h) ae]
def aaX(T:ByteArray):Bool:=(List.range 256).all fun i=>match sat? T (i:Int)with
  |some n=>decide (0<=n)&&decide (n<=8)&&decide (i<2 ^ n.toNat)&&(decide (n=0) || decide (2 ^ (n.toNat - 1)<=i))
  |none=>false
theorem aaY{T:ByteArray}(h:aaX T=true){i:Nat}(hi:i<256): ∃ n:Nat,sat? T (i:Int)=some (n:Int)∧n≤8∧i<2 ^ n∧(n=0∨2 ^ (n - 1)≤i):=by
  have:=List.all_eq_true.1 h i (List.mem_range.2 hi)
  split at this
  · rename_i n hn
    simp only[Bool.and_eq_true,decide_eq_true_eq,Bool.or_eq_true]at this
    obtain⟨⟨⟨a,b⟩,c⟩,d⟩:=this
    refine⟨n.toNat,by rw[hn,Int.toNat_of_nonneg a],by omega,c,?_⟩
    rcases d with d|d
    · exact .inl ae
    · exact .inr d
  · cases this
def Bits(x n:Nat):Prop:=x<2 ^ n/\(n=0∨2 ^ (n - 1)<=x)
theorem Bits.shift{x n k:Nat}(h:Bits (x / 2 ^ k) n)(h0:2 ^ k≤x):Bits x (k+n):=by
  have hk:0<2 ^ k:=Nat.pos_of_ne_zero (by simp)
  obtain⟨h1,h2⟩:=h
  have h3:1<=x / 2 ^ k:=(Nat.le_div_iff_mul_le hk).2 ae
  refine⟨?_,.inr ?_⟩
  · rw[Nat.pow_add]
    have h:=(Nat.div_lt_iff_lt_mul hk).1 h1
    rw[Nat.mul_comm];exact h
  · rcases h2 with h2|h2
    · subst h2;simp at h1;omega
    · by_cases hn:n=0
      · subst hn;simp at h1;omega
      · rw[show k+n - 1=(n - 1)+k by omega,Nat.pow_add]
        exact(Nat.le_div_iff_mul_le hk).1 h2
theorem Vk{fu x c:Nat}(hx:x<65536)(hc:c≤1000): ∃ n:Nat,lI.k2 fu (x:Int) (c:Int)=some ((c+n:Nat):Int)∧Bits x n∧n≤16:=by
  unfold lI.k2
  generalize hT:(ByteArray.mk _:ByteArray)=T
  have hok:aaX T=true:=by subst hT;kernel_rfl
  clear hT
  by_cases h:256<=x
  · rw[if_pos ae,show((8:Int))=((8:Nat):Int)from rfl,UD ae]
    have h8:x / 2 ^ 8<256:=ae
    obtain⟨n,e1,e2,e3,e4⟩:=aaY hok h8
    have hw:wk .u8 ((x / 2 ^ 8:Nat):Int)=((x / 2 ^ 8:Nat):Int):=by
      have: ∀ z:Int,wk .u8 z=z%256:=λz=>by simp[wk,IntKind.wrap,IntKind.signed,IntKind.bits]
      rw[this,Int.emod_eq_of_lt ae ae]
    rw[hw,e1,ai]
    refine⟨8+n,?_,Bits.shift ⟨e3,e4⟩ ae,by omega⟩
    rw[bi (x:=((c:Nat):Int)+((8:Nat):Int)) ae ae,bi (x:=((n:Nat):Int)) ae ae,bi ae ae]
    congr 1
    omega
  · rw[if_neg ae]
    have hw:wk .u8 ((x:Nat):Int)=((x:Nat):Int):=by
      have: ∀ z:Int,wk .u8 z=z%256:=λz=>by simp[wk,IntKind.wrap,IntKind.signed,IntKind.bits]
      rw[this,Int.emod_eq_of_lt ae ae]
    obtain⟨n,e1,e2,e3,e4⟩:=aaY hok (i:=x) ae
    refine⟨n,?_,⟨e3,e4⟩,by omega⟩
    rw[hw,e1,ai,bi (x:=((n:Nat):Int)) ae ae,bi ae ae]
    congr 1
theorem Vj{fu x c:Nat}(hx:x<4294967296)(hc:c≤100): ∃ n:Nat,lI.k1 fu (x:Int) (c:Int)=some ((c+n:Nat):Int)∧Bits x n∧n≤32:=by
  unfold lI.k1;try unfold jn
  by_cases h:65536<=x
  · rw[if_pos ae,show((16:Int))=((16:Nat):Int)from rfl,UD ae]
    obtain⟨n,e1,e2,e3⟩:=Vk (fu:=fu) (x:=x / 2 ^ 16) (c:=c+16) ae ae
    refine⟨16+n,?_,e2.shift ae,by omega⟩
    rw[bi (x:=((c:Nat):Int)+((16:Nat):Int)) ae ae,show((c:Nat):Int)+((16:Nat):Int)=((c+16:Nat):Int)by omega,e1]
    congr 1;omega
  · rw[if_neg ae]
    obtain⟨n,e1,e2,e3⟩:=Vk (fu:=fu) (x:=x) (c:=c) ae ae
    exact⟨n,e1,e2,by omega⟩
theorem aeh{fu x:Nat}(hx:x<18446744073709551616): ∃ n:Nat,lI fu (x:Int)=some (n:Int)∧Bits x n∧n≤64:=by
  unfold lI;try unfold jn
  by_cases h:4294967296<=x
  · rw[if_pos ae,show((32:Int))=((32:Nat):Int)from rfl,UD ae]
    obtain⟨n,e1,e2,e3⟩:=Vj (fu:=fu) (x:=x / 2 ^ 32) (c:=32) ae ae
    exact⟨32+n,e1,e2.shift ae,by omega⟩
  · rw[if_neg ae,show((0:Int))=((0:Nat):Int)from rfl]
    obtain⟨n,e1,e2,e3⟩:=Vj (fu:=fu) (x:=x) (c:=0) ae ae
    exact⟨n,by rw[e1];congr 1;omega,e2,by omega⟩
theorem CE{fu:Nat}{b:Bool}: ∃ r,oD fu b=some r:=by unfold oD;split <;> exact⟨_,rfl⟩
theorem az0{fu:Nat}{b:Bool}: ∃ r,CQ fu 0 b=some r:=by
  obtain⟨s,hs⟩:=CE (fu:=fu) (b:=b)
  unfold CQ Nu
  rw[aI rfl,aI rfl,ai,hs,ai]
  exact⟨_,rfl⟩
theorem aaq{fu:Nat}{b:Bool}: ∃ r,oC fu 0 b=some r:=by
  obtain⟨s,hs⟩:=CE (fu:=fu) (b:=b)
  unfold oC oC.k1;try unfold jn
  rw[aI rfl,hs,ai]
  exact⟨_,rfl⟩
theorem asC{fu:Nat}{a:Bool}{b c d:Int}: ∃ r,eG.k3 fu a b c d=some r:=by
  obtain⟨s,hs⟩:=CE (fu:=fu) (b:=a)
  obtain⟨u,hu⟩:=aaq (fu:=fu) (b:=a)
  unfold eG.k3
  rw[hs,hu]
  simp only[ai]
  repeat' split
  all_goals exact⟨_,rfl⟩
theorem Tc{fu:Nat}{a e f g:Bool}{b c d:Int}: ∃ r,eG.k2 fu a b c d e f g=some r:=by
  unfold eG.k2;try unfold jn
  repeat' split
  all_goals exact asC
theorem asD{fu:Nat}{a e f:Bool}{b c d:Int}: ∃ r,eG.k4 fu a b c e d f=some r:=by
  unfold eG.k4
  repeat' split
  all_goals exact Tc
theorem asz{fu:Nat}{a e:Bool}{b c:Int}{n:Nat}(hn:n≤64)(hb: -300≤b)(hb2:b≤200): ∃ r,eG.k1 fu a b c e (n:Int)=some r:=by
  unfold eG.k1;try unfold jn
  have e1:wk .i64 ((n:Int) - 24)=(n:Int) - 24:=bi ae ae
  have e2:wk .i64 (-149 - b)= -149 - b:=bi ae ae
  rw[e1,e2]
  have h1:(n:Int) - 24<=bV ((n:Int) - 24) (-149 - b):=by unfold bV;split <;> omega
  have h2:bV ((n:Int) - 24) (-149 - b)<=151:=by unfold bV;split <;> omega
  generalize bV ((n:Int) - 24) (-149 - b)=m at h1 h2
  split
  · rw[aI (by rw[bi ae ae];omega)]
    exact Tc
  · split
    · exact Tc
    · rw[aI ae,aI (by rw[bi ae ae];omega)]
      repeat' split
      all_goals exact asD
theorem DC{fu:Nat}{a e:Bool}{b c:Int}(h0:0≤c)(h1:c<18446744073709551616): ∃ r,eG fu 0 a b c e=some r:=by
  obtain⟨k,rfl⟩:=Int.eq_ofNat_of_zero_le h0
  obtain⟨n,hn,_,hn2⟩:=aeh (fu:=fu) (x:=k) ae
  obtain⟨s,hs⟩:=CE (fu:=fu) (b:=a)
  obtain⟨u,hu⟩:=aaq (fu:=fu) (b:=a)
  obtain⟨v,hv⟩:=az0 (fu:=fu) (b:=a)
  unfold eG;try unfold jn
  rw[aI rfl,hn,ai,hs,hu,hv]
  simp only[ai]
  split
  · split <;> exact⟨_,rfl⟩
  · split
    · exact⟨_,rfl⟩
    · split
      · exact⟨_,rfl⟩
      · exact asz hn2 ae ae
theorem uH(x:Int):0≤wk .u64 x∧wk .u64 x<18446744073709551616:=by
  have:wk .u64 x=x%18446744073709551616:=by simp[wk,IntKind.wrap,IntKind.signed,IntKind.bits]
  rw[this];omega
theorem MB{fu:Nat}{x:Int}: ∃ r,xJ fu x=some r∧ -150≤r.fexp∧r.fexp≤200:=by
  have hb:0≤band .u32 (jG .u32 x 23) 255∧band .u32 (jG .u32 x 23) 255≤255:=by
    unfold band
    rw[show IntKind.u32.bits=32 from rfl,BitVec.toNat_and]
    have h:(BitVec.ofInt 32 (jG .u32 x 23)).toNat &&& (BitVec.ofInt 32 255).toNat<=255:=Nat.le_trans Nat.and_le_right au
    have hw:=aAA (x:=(((BitVec.ofInt 32 (jG .u32 x 23)).toNat &&& (BitVec.ofInt 32 255).toNat:Nat):Int)) ae ae
    unfold wk at hw
    rw[hw]
    omega
  unfold xJ
  rw[bi (x:=band .u32 (jG .u32 x 23) 255) ae ae]
  generalize band .u32 (jG .u32 x 23) 255=q at hb
  split
  · exact⟨_,rfl,by show(-150:Int)<=0;omega,by show(0:Int)<=200;omega⟩
  · split
    · exact⟨_,rfl,by show(-150:Int)<= -149;omega,by show(-149:Int)<=200;omega⟩
    · refine⟨_,rfl,?_,?_⟩
      · show -150≤wk .i64 (q - 150)
        rw[bi ae ae];omega
      · show wk .i64 (q - 150)≤200
        rw[bi ae ae];omega
theorem aei{fu:Nat}{x y:Int}: ∃ r,CO fu x y=some r:=by
  obtain⟨a,ha,_,_⟩:=MB (fu:=fu) (x:=x)
  obtain⟨b,hb,_,_⟩:=MB (fu:=fu) (x:=y)
  obtain⟨s,hs⟩:=CE (fu:=fu) (b:= !(a.fneg==b.fneg))
  obtain⟨r,hr⟩:=DC (fu:=fu) (a:= !(a.fneg==b.fneg)) (e:=false) (b:=wk .i64 (a.fexp+b.fexp)) (uH (a.fsig*b.fsig)).1 (uH _).2
  unfold CO uF uF.k1;try unfold jn
  rw[aI rfl,ha,ai,hb,ai,hs,hr]
  simp only[ai]
  repeat' split
  all_goals exact⟨_,rfl⟩
theorem abh{fu:Nat}: ∃ r,CP fu 0=some r:=by
  obtain⟨s,hs⟩:=CE (fu:=fu) (b:=decide ((0:Int)=2))
  unfold CP
  rw[aI rfl,hs,ai]
  exact⟨_,rfl⟩
theorem Vq{fu:Nat}{a b c:Bool}{x y z:Int}: ∃ r,jB.k3 fu a b x y z c=some r:=by
  obtain⟨s,hs⟩:=abh (fu:=fu)
  obtain⟨r1,h1⟩:=DC (fu:=fu) (a:=a) (e:=c) (b:=x) (uH (y+z)).1 (uH _).2
  obtain⟨r2,h2⟩:=DC (fu:=fu) (a:=a) (e:=true) (b:=x) (uH (wk .u64 (y - z) - 1)).1 (uH _).2
  obtain⟨r3,h3⟩:=DC (fu:=fu) (a:=a) (e:=false) (b:=x) (uH (y - z)).1 (uH _).2
  obtain⟨r4,h4⟩:=DC (fu:=fu) (a:=b) (e:=false) (b:=x) (uH (z - y)).1 (uH _).2
  unfold jB.k3
  rw[hs,h1,h2,h3,h4]
  simp only[ai]
  repeat' split
  all_goals exact⟨_,rfl⟩
theorem Vp{fu:Nat}{a b:Bool}{x y z w:Int}(h:z≤x)(h1: -1000≤z)(h2:x≤1000): ∃ r,jB.k2 fu a x y b z w=some r:=by
  unfold jB.k2;try unfold jn
  rw[bi (x:=x - z) ae ae]
  split
  · rw[aI ae];exact Vq
  · rw[aI (by rw[bi ae ae];omega)];exact Vq
theorem aem{fu:Nat}{p q:qL}(h1: -150≤p.fexp)(h2:p.fexp≤200)(h3: -150≤q.fexp)(h4:q.fexp≤200): ∃ r,jB.k1 fu p q=some r:=by
  unfold jB.k1;try unfold jn
  split
  · exact Vp ae ae ae
  · exact Vp ae ae ae
theorem ad4{fu:Nat}{x y:Int}: ∃ r,CJ fu x y=some r:=by
  obtain⟨a,ha,a1,a2⟩:=MB (fu:=fu) (x:=x)
  obtain⟨b,hb,b1,b2⟩:=MB (fu:=fu) (x:=y)
  obtain⟨s,hs⟩:=abh (fu:=fu)
  obtain⟨r,hr⟩:=aem (fu:=fu) a1 a2 b1 b2
  unfold CJ jB;try unfold jn
  rw[aI rfl,ha,ai,hb,ai,hs,hr]
  simp only[ai]
  repeat' split
  all_goals exact⟨_,rfl⟩
end Go.Av
namespace Go.Av
section
variable {fu:Nat} {s:dh} {T:List aj}
theorem aan{op:Int}(h:iZ op):ut fu op=some true:=by
  unfold iZ at h
  unfold ut
  rw[if_pos ae,if_pos ae,decide_eq_false ae];rfl
theorem aqm{op:Int}(h: ¬ iZ op):ut fu op=some false:=by
  unfold iZ at h
  unfold ut
  by_cases c:45<=op
  · rw[if_pos c]
    by_cases c2:op<=64
    · rw[if_pos c2,decide_eq_true ae];rfl
    · rw[if_neg c2]
  · rw[if_neg c]
theorem alF{op:Int}(h:iZ op)(ht:Ah fu T):dW fu op s T 1=match tX T with|some e=>some ([],e)|none=>dW.k1 fu op s T 1 (T.map aF):=by
  unfold dW
  rw[aan h,ai,if_pos rfl,dB]
  exact aqn ht (k1:=λl=>dW.k1 fu op s T 1 l) (er:=λe=>some ([],e)) (L:=dW.L1 fu op s T 1) (λnx acc i=>rfl)
theorem asM{α β:Type}{a b c:α}{f:α->α->α->Option β}:l3 [a,b,c] f=f a b c:=rfl
theorem NL{β:Type}{k:Nat}{f:Nat->Option β}:un (k+1) f=f k:=rfl
structure Acc (fu:Nat) (s:dh) (T:List aj) (k:Nat):Prop where
  full:Full 52 (T.map valOf)
  ah:AH 52 s (T.map valOf)
  ax:iC s.fAxis (aF (tI T 0)).fDims.length=some (k:Int)
  kl:k<(aF (tI T 0)).fDims.length
  t1:(tI T 1).fType≠0
  fit:Fits (aF (tI T 0)).fDims (aF (tI T 1)).fDims k
  dm:(vl (T.map valOf) 2).fDims=(vl (T.map valOf) 1).fDims
  node: ∃ ty d,kP fu 52 s (T.map valOf) 1=some ([rF ty d],0)
  nm: ∀ e ∈ (aF (tI T 1)).fI,0<=wv (gI (aF (tI T 0)).fDims k) e/\wv (gI (aF (tI T 0)).fDims k) e<gI (aF (tI T 0)).fDims k
theorem alN(c:Ctx fu 52 s T):(∃ l e,e≠0∧dW.k1 fu 52 s T 1 (T.map aF)=some (l,e))∨(dW.k1 fu 52 s T 1 (T.map aF)=none∧ ∃ k,Acc fu s T k):=by
  have hfu:=c.fuel
  refine c.node (Q:=fun r=>(∃ l e,e≠0∧r=some (l,e))∨(r=none∧ ∃ k,Acc fu s T k)) (R:=fun d=> ∃ k:Nat,iC s.fAxis (vl (T.map valOf) 0).fDims.length=some (k:Int)∧k<(vl (T.map valOf) 0).fDims.length∧d=(vl (T.map valOf) 0).fDims∧Fits (vl (T.map valOf) 0).fDims (vl (T.map valOf) 1).fDims k∧(vl (T.map valOf) 2).fDims=(vl (T.map valOf) 1).fDims) (fun d ⟨k,_,_,h,_⟩=>by
    rw[h];have:=c.d8;omega) (λhF hA=> ?_) (λl e h=> .inl ⟨l,e,h,rfl⟩) (λhF hA d hd hgd hN=> ?_)
  · obtain⟨k,k1,k2⟩:=hA.at_.axis au
    exact bu.mono (ayB c.d8 (c.gd 1).1 k1 ae) λd h=>⟨k,k1,k2,h⟩
  · have hf:=c.fst hF
    obtain⟨k,k1,k2,h1,h2,h3⟩:=hd
    have e1:(ar 52).1=3:=by decide
    have hl:=hF.1
    simp only[List.length_map]at hl
    have t1:=hF.2.2 1 ae
    rw[oG]at t1
    rw[hf.dm]at k1 k2 h2
    have h2':=h2
    rw[xP t1]at h2'
    have h8:=(gQ.1 hf.chk).2.1.1
    obtain⟨e,he⟩:=GM (fu:=fu) (s:=s) (n:=(aF (tI T 0)).fDims.length) ae
    rw[GK k1]at he
    have h0:at? (T.map aF) (0:Int)=some (aF (tI T 0)):=sD (i:=0) hf.len
    have ha1:at? (T.map aF) (1:Int)=some (aF (tI T 1)):=sD (i:=1) (zZ t1)
    have hly:=qE (t:=aF (tI T 1)) (by rw[sF];exact c.chk t1)
    have hnm:=TN (fu:=fu) (op:=52) (s:=s) (L:=T.map aF) (x:=aF (tI T 0)) (k:=k) ha1 (bY k2) ae ae
    unfold dW.k1
    rw[Ai c.tens,ai,hN,ai]
    dsimp only
    rw[if_pos rfl,h0,ai,he,ai,if_neg au,if_neg au,if_pos rfl]
    dsimp only
    rcases hnm with⟨hn1,hn2⟩|⟨-,hn1⟩
    · rw[hn1,ai,if_pos rfl,if_neg au]
      exact .inr ⟨rfl,k,hF,hA,k1,k2,t1,h2',h3,⟨_,d,hN⟩,hn2⟩
    · rw[hn1,ai,if_neg au]
      exact .inl ⟨_,_,by decide,rfl⟩
theorem ayq{x9:Int}{x12 x13 x14:List Int}{x15:List Bool}{x21 x22:List Int}{x23:List Bool}{l:List Int}{n:Nat}(hk:x9=1∨x9=7∨x9=9)(hr: ∀ e ∈ l,0≤e∧e<n)(hl:l.length≤4096)
    (hF:x9=1->x13.length=n/\l.length<=x21.length) (hI:x9=7->x14.length=n/\l.length<=x22.length) (hB:x9=9->x15.length=n/\l.length<=x23.length) (hf:6000<fu):
    ∃ y,fZ.W1 fu s x9 x12 x13 x14 x15 x21 x22 x23 l x13 x14 x15 0=some ([y],0):=by
  unfold fZ.W1
  refine jC l.length (λm (st:List Int×List Int×List Bool×Int)=>st.1.length=x13.length/\st.2.1.length=x14.length/\st.2.2.1.length=x15.length/\st.2.2.2=(m:Int)) (λr=> ∃ y,r=some ([y],0)) ?_ ?_ ⟨rfl,rfl,rfl,rfl⟩ ae
  · rintro m ⟨A,B,C,i⟩ next hm ⟨h1,h2,h3,h4⟩ hx
    dsimp only at h1 h2 h3 h4
    subst h4
    have he:=hr _ (List.getElem_mem hm)
    rw[← cu hm]at he
    obtain⟨e,hee⟩:=Int.eq_ofNat_of_zero_le he.1
    dsimp only
    unfold fZ.L1
    rw[aI h1.symm,aI h2.symm,aI h3.symm,if_pos ae,bY hm,ai,dL ae,hee]
    have nx: ∀ A' B' C',A'.length=A.length->B'.length=B.length->C'.length=C.length-> ∃ y,next (A',B',C',((m+1:Nat):Int))=some ([y],0):=λA' B' C' q1 q2 q3=>hx _ ⟨by simp only;omega,by simp only;omega,by simp only;omega,rfl⟩
    rcases hk with k1|k7|k9
    · obtain⟨f1,f2⟩:=hF k1
      rw[if_neg ae,if_neg ae]
      by_cases m4:s.fMode=4
      · obtain⟨r,hr⟩:=ad4 (fu:=fu) (x:=gI A e) (y:=gI x21 m)
        rw[if_pos m4,bY ae,ai,bY ae,ai,hr,ai,aI ae]
        exact nx _ _ _ (List.length_set ..) rfl rfl
      · rw[if_neg m4]
        by_cases m5:s.fMode=5
        · obtain⟨r,hr⟩:=aei (fu:=fu) (x:=gI A e) (y:=gI x21 m)
          rw[if_pos m5,bY ae,ai,bY ae,ai,hr,ai,aI ae]
          exact nx _ _ _ (List.length_set ..) rfl rfl
        · rw[if_neg m5,bY ae,ai,aI ae]
          exact nx _ _ _ (List.length_set ..) rfl rfl
    · obtain⟨f1,f2⟩:=hI k7
      rw[if_neg ae,if_pos k7]
      by_cases m4:s.fMode=4
      · rw[if_pos m4,bY ae,ai,bY ae,ai,aI ae]
        exact nx _ _ _ rfl (List.length_set ..) rfl
      · rw[if_neg m4]
        by_cases m5:s.fMode=5
        · rw[if_pos m5,bY ae,ai,bY ae,ai,aI ae]
          exact nx _ _ _ rfl (List.length_set ..) rfl
        · rw[if_neg m5,bY ae,ai,aI ae]
          exact nx _ _ _ rfl (List.length_set ..) rfl
    · obtain⟨f1,f2⟩:=hB k9
      rw[if_pos k9,at?_get ae,ai,aI ae]
      exact nx _ _ _ rfl rfl (List.length_set ..)
  · rintro⟨A,B,C,i⟩ next ⟨h1,h2,h3,h4⟩
    dsimp only at h1 h2 h3 h4
    subst h4
    dsimp only
    unfold fZ.L1
    rw[aI h1.symm,aI h2.symm,aI h3.symm,if_neg ae]
    exact⟨_,rfl⟩
theorem alG(c:Ctx fu 52 s T){k:Nat}(h:Acc fu s T k): ∃ y,fZ fu 52 s T 1=some ([y],0):=by
  have hfu:=c.fuel
  have e1:(ar 52).1=3:=by decide
  have e2:(ar 52).2.1=3:=by decide
  have hl:=h.full.1
  have hl2:=h.full.2.1
  simp only[List.length_map]at hl hl2
  have q0:=h.full.2.2 0 ae
  have q2:=h.full.2.2 2 ae
  have q1:=h.t1
  rw[oG]at q0 q2
  have c0:=c.chk q0
  have c1:=c.chk q1
  have c2:=c.chk q2
  have t61:=(h.ah.ty 2 (by simp;omega) (by rw[oG];exact q2)).2
  have l61:lt 52 2=61:=by decide
  rw[l61,oG,oG]at t61
  unfold Bj at t61
  rw[if_neg au,if_neg au,if_neg au,if_neg au,if_pos rfl]at t61
  have tt:(tI T 2).fType=(tI T 0).fType:=by simpa using t61
  have t7:=TI (h.ah.ty 1 (by simp;omega)) (by rw[oG];exact q1) au
  rw[oG]at t7
  have hdm:=h.dm
  rw[xP q1,xP q2]at hdm
  have hf:=c.fst h.full
  obtain⟨ty,d,hN⟩:=h.node
  match T,hl,hl2,c,h,q0,q1,q2,c0,c1,c2,tt,t7,hdm,hf,hN with
  | [x0,x1,x2],_,_,c,h,q0,q1,q2,c0,c1,c2,tt,t7,hdm,hf,hN=>
    have i0:tI [x0,x1,x2] 0=x0:=rfl
    have i1:tI [x0,x1,x2] 1=x1:=rfl
    have i2:tI [x0,x1,x2] 2=x2:=rfl
    rw[i0]at q0 c0 tt
    rw[i1]at q1 c1 t7 hdm
    rw[i2]at q2 c2 tt hdm
    have ax:=h.ax
    have kl:=h.kl
    have fit:=h.fit
    have nm:=h.nm
    rw[i0]at ax kl fit nm
    rw[i1]at fit nm
    have g0:=c.tens.2.2 x0 (by simp)
    have g1:=c.tens.2.2 x1 (by simp)
    have g2:=c.tens.2.2 x2 (by simp)
    have h8:=(gQ.1 c0).2.1.1
    have cc0:dQ (aF x0)=0:=by rw[sF];exact c0
    have cc1:dQ (aF x1)=0:=by rw[sF];exact c1
    have ly:=qE cc1
    have hnm:=(TN (fu:=fu) (op:=52) (s:=s) (L:=[aF x0,aF x1,aF x2]) (x:=aF x0) (y:=aF x1) (k:=k) rfl (bY kl) ae ae).resolve_right λhh=>hh.1 nm
    obtain⟨l,a1,a2,a3⟩:=Vz (fu:=fu) (op:=52) (s:=s) (L:=[aF x0,aF x1,aF x2]) cc0 cc1 t7 rfl fit kl nm ae
    have hV:=Ai c.tens
    obtain⟨q,rfl⟩: ∃ q,fu=q+4:=⟨fu - 4,by omega⟩
    unfold fZ
    rw[aI rfl,asM,aan (by unfold iZ;omega),ai,if_pos rfl,dB,NL,dB,if_neg q0,xX g0.1.small g0.2,ai,c0,if_pos rfl]
    unfold fZ.k3
    rw[Aa g0.1 g0.2.2.1,ai,NL,dB,if_neg q1,xX g1.1.small g1.2,ai,c1,if_pos rfl]
    unfold fZ.k4
    rw[Aa g1.1 g1.2.2.1,ai,NL,dB,if_neg q2,xX g2.1.small g2.2,ai,c2,if_pos rfl]
    unfold fZ.k5
    rw[Aa g2.1 g2.2.2.1,ai,NL]
    unfold fZ.k1
    rw[hV,ai,hN,ai]
    dsimp only
    rw[if_pos rfl,xU (show(aF x0).fDims.length<=100 from by show x0.fDims.length<=100;omega),ax,ai,dB]
    show ∃ y,(jX (q+4) ⟨52,s,[aF x0,aF x1,aF x2],aF x0,(k:Int)⟩).bind _=some ([y],0)
    rw[hnm.1,ai,if_pos rfl]
    unfold fZ.k2
    show ∃ y,(some (rF ty d)).bind _=some ([y],0)
    rw[ai]
    show ∃ y,(iO (q+4) ⟨52,s,[aF x0,aF x1,aF x2],aF x0,(k:Int)⟩ ((aF x1).fI.map (wv (gI (aF x0).fDims k)))).bind _=some ([y],0)
    rw[a1,ai]
    obtain⟨-,z1,z2,z3⟩:=gQ.1 cc0
    have cc2:dQ (aF x2)=0:=by rw[sF];exact c2
    obtain⟨-,w1,w2,w3⟩:=gQ.1 cc2
    have hp1:=(gQ.1 cc1).2.1.2.2
    obtain⟨n,hn⟩:=Int.eq_ofNat_of_zero_le (uB z1.2.1)
    have hd2:aO (aF x2).fDims=aO (aF x1).fDims:=congrArg aO hdm
    have ht2:(aF x2).fType=(aF x0).fType:=tt
    refine ayq (n:=n) (gQ.1 cc0).1 (λe he=>by have:=a3 e he;omega) ae (λk1=> ?_) (λk7=> ?_) (λk9=> ?_) ae
    · have u1:=z2
      have u2:=w2
      rw[if_pos k1]at u1
      rw[ht2,if_pos k1]at u2
      constructor <;> omega
    · have u1:=z3.1
      have u2:=w3.1
      rw[if_pos k7]at u1
      rw[ht2,if_pos k7]at u2
      constructor <;> omega
    · have u1:=z3.2
      have u2:=w3.2
      rw[if_pos k9]at u1
      rw[ht2,if_pos k9]at u2
      constructor <;> omega
theorem ad8{op:Int}(h:iZ op)(hs:wu fu s)(ht:Ah fu T)(hr: ∀ t ∈ T,∀ z ∈ t.fI, -9223372036854775808≤z∧z<9223372036854775808)(s0: -9223372036854775808≤s.fStart)(s1:s.fStart<9223372036854775808)(s2: -9223372036854775808≤s.fEnd)(s3:s.fEnd<9223372036854775808)(hf:600000<fu):
    ∃ out e,zu fu op s T 1=some (out,e)/\(e=0-> ∃ y,out=[y]/\RES op (aF (tI T 0)) y):=by
  unfold zu
  rw[alF h ht]
  cases hb:tX T with
  |some e=>exact⟨[],e,rfl,λh0=>absurd h0 (ahE hb)⟩
  | none=>
    have c:Ctx fu op s T:=⟨h,hs,ht,ahD hb,hr,s0,s1,s2,s3,hf⟩
    dsimp only
    by_cases h52:op=52
    · subst h52
      rcases alN c with⟨l,e,he,hk⟩|⟨hk,k,hA⟩
      · rw[hk];exact⟨l,e,rfl,λh0=>absurd h0 he⟩
      · obtain⟨y,hy⟩:=alG c hA
        rw[hk,hy]
        exact⟨[y],0,rfl,λ_=>⟨y,rfl,xG ae⟩⟩
    · obtain⟨out,e,he,hh⟩:=alX c h52
      rw[he]
      exact⟨out,e,rfl,hh⟩
end
end Go.Av
namespace Go.Av
theorem axu{fu:Nat}{l:List Int}(hp: ∀ x ∈ l,1≤x∧x≤4096)(hl:l.length≤8)(hf:l.length<fu):gp.W1 fu l 1 0=some (if aO l≤4096 then(aO l,0)else(0,4)):=by
  unfold gp.W1
  refine(qw (λ(s:Int×Int)=>some (if s.1*aO (l.drop s.2.toNat)<=4096 then(s.1*aO (l.drop s.2.toNat),0)else(0,4))) (λs=>0<=s.2/\s.2<=l.length/\1<=s.1/\s.1<=4096) (λs=>l.length - s.2.toNat) ?_ fu (1,0) (by simp) (by simp;omega)).trans (by simp)
  rintro⟨m,i⟩ ⟨h0,h1,h2,h3⟩ next hn
  simp only at h0 h1 h2 h3 hn ⊢
  obtain⟨k,rfl⟩:=Int.eq_ofNat_of_zero_le h0
  unfold gp.L1 gp.k2;try unfold jn
  simp only[Int.toNat_natCast]
  by_cases hk:k<l.length
  · obtain⟨q1,q2⟩:=hp _ (List.getElem_mem hk)
    have hge:1<=m*l[k]:=by have:=Int.mul_le_mul h2 q1 au ae;simpa using this
    have hle:m*l[k]<=4096*4096:=Int.mul_le_mul h3 q2 ae au
    rw[if_pos ae,at?_get hk,ai,if_neg ae,ai,bi (x:=m*l[k]) ae ae,List.drop_eq_getElem_cons hk]
    have hpos:1<=aO (l.drop (k+1)):=rH λx hx=>(hp x (List.mem_of_mem_drop hx)).1
    simp only[aO,← Int.mul_assoc]
    by_cases hd:4096<m*l[k]
    · rw[if_pos hd]
      have:m*l[k]*1<=m*l[k]*aO (l.drop (k+1)):=Int.mul_le_mul_of_nonneg_left hpos ae
      rw[if_neg ae]
    · rw[if_neg hd]
      rw[dL ae,hn (m*l[k],((k+1:Nat):Int)) ⟨by simp only[];omega,by simp only[];omega,hge,by simp only[];omega⟩ (by simp;omega)]
      simp
  · rw[if_neg ae,List.drop_of_length_le ae]
    simp only[aO,Int.mul_one]
    rw[if_pos h3]
theorem axv{fu:Nat}{l:List Int}(hl:Short l)(hf:l.length<fu):gp fu l=some (jP l):=by
  unfold gp gp.W2;try unfold jn
  refine(qw (λ(s:Bool×Bool×Int)=>cond ((l.drop s.2.2.toNat).any (λx=>decide (x<0))) (some (0,1)) (gp.k1 fu l (s.1 || (l.drop s.2.2.toNat).any (λx=>decide (x=0))) (s.2.1 || (l.drop s.2.2.toNat).any (λx=>decide (4096<x))))) (λs=>0<=s.2.2/\s.2.2<=l.length) (λs=>l.length - s.2.2.toNat) ?_ fu _ (by simp) (by simp;omega)).trans ?_
  · rintro⟨z,b,i⟩ ⟨h0,h1⟩ next hn
    simp only at h0 h1 hn ⊢
    obtain⟨k,rfl⟩:=Int.eq_ofNat_of_zero_le h0
    unfold gp.L2;try unfold jn
    simp only[Int.toNat_natCast]
    by_cases hk:k<l.length
    · rw [if_pos ae,at?_get hk,ai,List.drop_eq_getElem_cons hk]
      simp only[List.any_cons]
      by_cases h2:l[k]<0
      · rw[if_pos h2];simp[h2]
      · rw[if_neg h2]
        have hx:=λz' b'=>hn (z',b',((k+1:Nat):Int)) (by simp only[];omega) (by simp;omega)
        simp only[Int.toNat_natCast]at hx
        have hz:(if z=true then gp.k3 fu (fun x13 x14 x15=>next (x13,x14,x15)) b (k:Int) l[k] true else gp.k3 fu (fun x13 x14 x15=>next (x13,x14,x15)) b (k:Int) l[k] (decide (l[k]=0)))=next (z || decide (l[k]=0),b || decide (4096<l[k]),wk .i64 ((k:Int)+1)):=by
          unfold gp.k3
          cases z <;> cases b <;> simp
        rw[hz,dL (by unfold Short at hl;omega),hx]
        simp only[Bool.or_assoc]
        simp[h2]
    · rw[if_neg ae,List.drop_of_length_le ae]
      simp
  · simp only[Int.toNat_zero,List.drop_zero,Bool.false_or]
    by_cases h1:l.any (λx=>decide (x<0))=true
    · rw[h1,cond_true]
      have hg: ¬ Good l:=fun hg=>by
        obtain⟨x,hx,hx2⟩:=List.any_eq_true.1 h1
        have:=(hg.2.1 x hx).1
        simp at hx2;omega
      simp only[jP,if_neg hg,mJ,if_pos h1]
    have h1':l.any (λx=>decide (x<0))=false:=by simpa using h1
    rw[h1',cond_false]
    have he:mJ l=4:=by simp only[mJ,if_neg h1]
    unfold gp.k1
    by_cases h2:(decide (8<(l.length:Int)) || l.any λx=>decide (4096<x))=true
    · rw [if_pos h2]
      have hg: ¬ Good l:=fun hg=>by
        rcases Bool.or_eq_true_iff.1 h2 with h3|h3
        · have:=hg.1;simp at h3;omega
        · obtain⟨x,hx,hx2⟩:=List.any_eq_true.1 h3
          have:=(hg.2.1 x hx).2
          simp at hx2;omega
      simp only[jP,if_neg hg,he]
    rw[if_neg h2]
    simp only[Bool.or_eq_true,decide_eq_true_eq,List.any_eq_true,not_or,not_exists,not_and]at h1 h2
    have hr:uM l:=λx hx=>by have:=h1 x hx;have:=h2.2 x hx;omega
    by_cases h4:(l.any λx=>decide (x=0))=true
    · rw[if_pos h4]
      have hz:(0:Int) ∈ l:=by
        obtain⟨x,hx,hx2⟩:=List.any_eq_true.1 h4
        simp at hx2;subst hx2;exact hx
      have hg:Good l:=⟨by omega,hr,by rw[vN hz];decide⟩
      simp only[jP,if_pos hg,vN hz]
    rw[if_neg h4]
    have hp: ∀ x ∈ l,1≤x∧x≤4096:=fun x hx=>by
      have:=hr x hx
      simp only[List.any_eq_true,decide_eq_true_eq,not_exists,not_and]at h4
      have:=h4 x hx;omega
    rw[axu hp ae hf]
    by_cases h5:aO l<=4096
    · have hg:Good l:=⟨by omega,hr,h5⟩
      simp only[jP,if_pos hg,if_pos h5]
    · have hg: ¬ Good l:=fun hg=>h5 hg.2.2
      simp only[jP,if_neg hg,if_neg h5,he]
end Go.Av
namespace Go.Av
theorem Es{x:Int}(h:(Lit.int .i64 x).wf=true): -9223372036854775808≤x∧x<9223372036854775808:=by
  simp[Lit.wf,IntKind.min,IntKind.max,IntKind.signed,IntKind.bits]at h
  omega
theorem adB{t:aj}(h:Af t):pg t:=by
  obtain⟨_,h1,h2,h3,h4,_⟩:=h
  have l1:=h1.1;have l2:=h2.1;have l3:=h3.1;have l4:=h4.1
  refine⟨by omega,by omega,by omega,by omega,λx hx=> ?_⟩
  have:=h2.2 x hx
  simp[Lit.wf,IntKind.min,IntKind.max,IntKind.signed,IntKind.bits]at this
  omega
theorem aaf{t:aj}(h:Af t):Fuel 3000000 t:=by
  obtain⟨_,h1,h2,h3,h4,_⟩:=h
  exact⟨by have:=h1.1;omega,by have:=h2.1;omega,by have:=h3.1;omega,by have:=h4.1;omega⟩
theorem azO{t:aj}(h:pg t):pg (aF t):=by
  obtain⟨h1,h2,h3,h4,h5⟩:=h
  refine⟨h1,by simpa[aF]using h2,h3,h4,λx hx=> ?_⟩
  obtain⟨w,hw,rfl⟩:=List.mem_map.1 (show x ∈ t.fF.map uX from hx)
  unfold uX
  split
  · exact⟨by decide,by decide⟩
  · exact h5 w hw
theorem akE{t:aj}(hc:dQ t=0):(t.fF.length:Int)+t.fI.length+t.fB.length=aO t.fDims:=by
  obtain⟨hk,hg,l1,l2,l3⟩:=gQ.1 hc
  rcases hk with e|e|e <;> simp[e]at l1 l2 l3 <;> simp[l1,l2,l3]
section
variable {fu:Nat} {x y:aj} {e:Int}
theorem asA(hc:dQ y=0)(hf:6000<fu):cZ.k3 fu ([y],e)=some true:=by
  have hg:=(gQ.1 hc).2.1
  have h8:=hg.1
  obtain⟨l1,l2,l3,l4⟩:=qE hc
  unfold cZ.k3
  show(some y).bind _=_
  rw[ai,axv (by unfold Short;omega) ae,ai,jP,if_pos hg]
  dsimp only
  rw[if_pos rfl,sumW ae ae ae,akE hc]
  simp
theorem there(hx:x.fI.length≤1048576){nx:Int→Option Bool}{i:Nat}(hi:i<y.fI.length)(hm:y.fI[i] ∈ x.fI)(hf:2000000<fu):cZ.W2 fu nx x (i:Int) y false 0=cZ.k4 fu nx (i:Int) true:=by
  unfold cZ.W2
  refine jC x.fI.length (λm (st:Bool×Int)=>st.2=(m:Int)/\(st.1=true∨ ∃ j,m<=j/\j<x.fI.length/\gI x.fI j=gI y.fI i)) (λr=>r=cZ.k4 fu nx (i:Int) true) ?_ ?_ ⟨rfl,.inr ?_⟩ ae
  · rintro m ⟨b,j⟩ next hj ⟨h1,h2⟩ hx
    dsimp only at h1 h2 ⊢
    subst h1
    unfold cZ.L2
    rw[if_pos ae]
    by_cases hb:b=true
    · rw[if_pos hb,dL ae];exact hx _ ⟨rfl,.inl rfl⟩
    · rw [if_neg hb,bY hj,ai,bY hi,ai,dL ae]
      refine hx _ ⟨rfl,?_⟩
      obtain⟨q,q1,q2,q3⟩:=h2.resolve_left hb
      by_cases c:gI x.fI m=gI y.fI i
      · exact .inl (by simpa using c)
      · refine .inr ⟨q,?_,q2,q3⟩
        rcases Nat.lt_or_ge m q with h|h
        · omega
        · have:q=m:=ae
          subst this;exact absurd q3 c
  · rintro⟨b,j⟩ next ⟨h1,h2⟩
    dsimp only at h1 h2 ⊢
    subst h1
    unfold cZ.L2
    rw[if_neg ae]
    have hb:b=true:=h2.resolve_right λ⟨q,q1,q2,_⟩=>by omega
    rw[hb]
  · obtain⟨q,hq,he⟩:=List.getElem_of_mem hm
    exact⟨q,by omega,hq,by rw[cu hq,cu hi,he]⟩
theorem zk(hs:ku x y)(hx:x.fI.length≤1048576)(hf:2000000<fu):cZ.k2 fu ([y],e) x=some true:=by
  obtain⟨hc,hm⟩:=hs
  have hl:=qE hc
  unfold cZ.k2
  rw[dB]
  unfold cZ.W1
  refine jC y.fI.length (λm (i:Int)=>i=(m:Int)) (λr=>r=some true) ?_ ?_ rfl ae
  · rintro m i next hi rfl hx2
    unfold cZ.L1
    show(some y).bind _=_
    rw[ai,if_pos ae,dB,there hx hi (hm _ (List.getElem_mem _)) hf]
    unfold cZ.k4
    rw[if_pos rfl,dL ae]
    exact hx2 _ rfl
  · rintro i next rfl
    unfold cZ.L1
    show(some y).bind _=_
    rw[ai,if_neg ae]
    exact asA hc ae
theorem asF{op:Int}(hx:pg x)(hfx:Fuel fu x)(h:y.fType=x.fType∧y.fF=x.fF∧y.fI=x.fI∧y.fB=x.fB∧y.fDims.length≤8):cZ.k5 fu op ([y],e) x true=some true:=by
  obtain⟨h1,h2,h3,h4,h5⟩:=h
  have hy:pg y:=⟨by omega,by rw[h2];exact hx.2.1,by rw[h3];exact hx.2.2.1,by rw[h4];exact hx.2.2.2.1,by rw[h2];exact hx.2.2.2.2⟩
  unfold cZ.k5
  rw[if_pos rfl]
  show(some y).bind _=_
  rw[ai,acR hy,ai,h1,h2,h3,h4]
  show(dZ fu x x).bind _=_
  rw[axt hx.small hfx,ai,aye]
theorem asE{op:Int}(hr:RES op x y)(hx:x.fI.length≤1048576)(hf:2000000<fu):cZ.k5 fu op ([y],e) x false=some true:=by
  unfold cZ.k5
  rw[if_neg au]
  by_cases a1:op=45
  · rw[if_pos a1];exact zk (hr.2 ae) hx hf
  rw[if_neg a1]
  by_cases a2:op=49
  · rw[if_pos a2];exact zk (hr.2 ae) hx hf
  rw[if_neg a2]
  by_cases a3:op=50
  · rw[if_pos a3];exact zk (hr.2 ae) hx hf
  rw[if_neg a3]
  by_cases a4:op=54
  · rw[if_pos a4];exact zk (hr.2 ae) hx hf
  rw[if_neg a4]
  by_cases a5:op=55
  · rw[if_pos a5];exact zk (hr.2 ae) hx hf
  rw[if_neg a5]
  by_cases a6:op=64
  · rw[if_pos a6];exact zk (hr.2 ae) hx hf
  rw[if_neg a6]
  by_cases a7:op=63
  · rw[if_pos a7];exact zk (hr.2 ae) hx hf
  rw[if_neg a7]
end
theorem ato(a0:Int)(a1:dh)(a2:List aj)(w0:(Lit.int .i64 a0).wf=true)(w1:Vl a1)(w2:a2.length≤1048576∧ ∀ z0 ∈ a2,(Af z0)): ∃ fu,cZ fu a0 a1 a2=some true:=by
  refine⟨3000000,?_⟩
  obtain⟨-, -, -, -, -, -, -,hp, -, -, -, -, -, -, -, -, -, -, -, -, -, -, -, -, -, -, -, -,h29,h30, -,hv, -⟩:=w1
  have hT:Ah 3000000 a2:=⟨w2.1,by have:=w2.1;omega,λt ht=>⟨adB (w2.2 t ht),aaf (w2.2 t ht)⟩⟩
  unfold cZ
  by_cases hop:iZ a0
  · obtain⟨out,e,h1,h2⟩:=ad8 (fu:=3000000) (T:=a2) hop ⟨hp.1,by have:=hp.1;omega,adB hv,aaf hv⟩ hT (fun t ht z hz=>Es ((w2.2 t ht).2.2.2.1.2 z hz)) (Es h29).1 (Es h29).2 (Es h30).1 (Es h30).2 ae
    rw[h1,ai,dB]
    dsimp only
    by_cases he:e=0
    · obtain⟨y,rfl,hr⟩:=h2 he
      rw[if_pos he,if_pos (by simp)]
      by_cases hl:(a2.length:Int)=0
      · rw[if_pos hl]
      · rw[if_neg hl]
        have h0:0<a2.length:=ae
        have hm:=Fz (T:=a2) h0
        have ha:at? a2 (0:Int)=some (tI a2 0):=by
          show at? a2 ((0:Nat):Int)=_
          unfold tI
          rw[at?_get h0,List.getD_eq_getElem?_getD,List.getElem?_eq_getElem h0];rfl
        have ht:=hT.2.2 _ hm
        have hq:=(w2.2 _ hm).2.2.2.1.1
        have hI:(aF (tI a2 0)).fI.length<=1048576:=hq
        unfold cZ.k1
        rw[ha,ai,axs ht.1 ht.2.2.1,ai,dB,dB]
        have same:a0=46∨a0=56∨a0=57∨a0=58->cZ.k5 3000000 a0 ([y],e) (aF (tI a2 0)) true=some true:=λh=>asF (azO ht.1) (Xz ht.2) (hr.1 h)
        by_cases b1:a0=46
        · rw[if_pos b1];exact same ae
        rw[if_neg b1]
        by_cases b2:a0=58
        · rw[if_pos b2];exact same ae
        rw[if_neg b2]
        by_cases b3:a0=56
        · rw[if_pos b3];exact same ae
        rw[if_neg b3]
        by_cases b4:a0=57
        · rw[decide_eq_true b4];exact same ae
        · rw[decide_eq_false b4];exact asE hr hI ae
    · rw[if_neg he]
  · have h1:zu 3000000 a0 a1 a2 1=some ([],1):=by
      unfold zu dW
      rw[aqm hop,ai];rfl
    rw[h1,ai,dB]
    rfl
end Go.Av
