/- Loops over a function in walks. Conditions: those that each names. -/
import Derived.Test.YtebfneaimafcoaaGreatAu
set_option linter.unusedVariables false
set_option linter.defProp false
namespace Go.Av
def lloop{α σ β:Type}(pb:α→(σ→Option β)→σ→Option β)(pf:σ→Option β):List α→σ→Option β
  |[],s=>pf s
  |y::ys,s=>pb y (lloop pb pf ys) s
def grK(K0:List Id)(e0:Env)(nx:Heap→Option AV):KK:=fun y e h=>match y with
  | .normal=>nx (sweep K0 e0 h)
  |_=>none
section
variable (P:Program) (C:Cfg) (cp:CallP) (ci:CallI) (lvl:Nat) (prot:List Id) (D:List (Nat×List Nat)) (n:Nat) (K:KK)
def grounds(K0:List Id)(asg body:Code)(e0:Env)(ps:List Tmp)(fs:List Fr):List AV→Heap→Option AV
  |[],h=>ret P C cp ci lvl prot D n K fs .normal e0 h
  |y::ys,h=>(tupL y).bind λxs=>if xs.length=ps.length then go P C cp ci lvl K0 D n (grK K0 e0 (grounds K0 asg body e0 ps fs ys)) (.seq asg body) (setPs e0 ps xs) h []else none
def grun(asg body:Code)(e0:Env)(ps:List Tmp)(fs:List Fr)(h:Heap)(r:AV×Heap):Option AV:=
  (seqL r.1).bind λys=>grounds P C cp ci lvl prot D n K (keys h) asg body e0 ps fs ys h
def grng(asg body:Code)(e0:Env)(ps:List Tmp)(fs:List Fr)(h:Heap)(k:FuncId)(cap:List AV):Option AV:=
  (optL (exportV h.get 4) cap).bind λxs=>(ci 0 k xs (seqH h cap)).bind (grun P C cp ci lvl prot D n K asg body e0 ps fs (seqH h cap))
end
section
variable {P:Program} {C:Cfg} {cp:CallP} {ci:CallI} {lvl:Nat} {prot:List Id} {D:List (Nat×List Nat)} {n:Nat} {K:KK}
variable {e:Env} {h:Heap} {fs:List Fr} {asg body:Code} {β:Type} {enc:β->AV}
theorem grounds_eq{K0:List Id}{e0:Env}{ps:List Tmp}: ∀ (ys:List AV) (h:Heap),(arounds K0 (exec P C cp ci lvl K0 D n asg) (exec P C cp ci lvl K0 D n body) e0 ps ys h).bind (fun h'=>ret P C cp ci lvl prot D n K fs .normal e0 h')=grounds P C cp ci lvl prot D n K K0 asg body e0 ps fs ys h
  |[],h=>rfl
  | y :: ys,h=>by
    simp only[arounds,grounds]
    cases tupL y with
    |none=>rfl
    | some xs=>
      simp only[ob_some]
      by_cases hl:xs.length=ps.length
      · rw [if_pos hl,if_pos hl]
        unfold go
        rw[exec_seq]
        cases exec P C cp ci lvl K0 D n asg (setPs e0 ps xs) h with
        |none=>rfl
        | some r=>
          rcases r with⟨_|_|_,e1,h1⟩ <;> try rfl
          simp only[ob_some,thenX]
          cases exec P C cp ci lvl K0 D n body e1 h1 with
          |none=>rfl
          | some r=>
            rcases r with⟨_|_|_,e2,h2⟩ <;> try rfl
            exact grounds_eq ys _
      · rw[if_neg hl,if_neg hl];rfl
theorem go_range{g:Operand}{ps:List Tmp}{k:FuncId}{cap:List AV}(hg:opnd e.get g=some (.fn k [] cap)):
    go P C cp ci lvl prot D n K (.rangeFunc g ⟨ps⟩ asg body) e h fs=grng P C cp ci lvl prot D n K asg body e ps fs h k cap:=by
  unfold go grng
  simp only[exec,hg,ob_some,fnOf,List.isEmpty_nil,if_true]
  cases optL (exportV h.get 4) cap with
  |none=>rfl
  | some xs=>
    simp only[ob_some]
    cases ci 0 k xs (seqH h cap)with
    |none=>rfl
    | some r=>
      obtain⟨r,h9⟩:=r
      simp only[ob_some,grun]
      cases seqL r with
      |none=>rfl
      | some ys=>
        simp only[ob_some]
        rw[← grounds_eq]
        cases arounds (keys (seqH h cap)) (exec P C cp ci lvl (keys (seqH h cap)) D n asg) (exec P C cp ci lvl (keys (seqH h cap)) D n body) e ps ys (seqH h cap) <;> rfl
theorem J.rng{α σ:Type}{ey:α→List AV}{pb:α→(σ→Option β)→σ→Option β}{pf:σ→Option β}{e0:Env}{h1:σ→Heap}{K0:List Id}{ps:List Tmp}(hl: ∀ y,(ey y).length=ps.length)
    (gf: ∀ s,J (ret P C cp ci lvl prot D n K fs .normal e0 (h1 s)) (pf s) enc)
    (gb: ∀ (y:α) (next:σ->Option β) (nx:Heap->Option AV),(∀ s h',h'=h1 s->J (nx h') (next s) enc)-> ∀ s,J (go P C cp ci lvl K0 D n (grK K0 e0 nx) (.seq asg body) (setPs e0 ps (ey y)) (h1 s) []) (pb y next s) enc):
    ∀ (ys:List α) (s:σ),J (grounds P C cp ci lvl prot D n K K0 asg body e0 ps fs (ys.map λy=> .tuple (ey y)) (h1 s)) (lloop pb pf ys s) enc
  |[],s=>gf s
  | y ::ys,s=>by
    refine J.eq (m':=go P C cp ci lvl K0 D n (grK K0 e0 (grounds P C cp ci lvl prot D n K K0 asg body e0 ps fs (ys.map λy=> .tuple (ey y)))) (.seq asg body) (setPs e0 ps (ey y)) (h1 s) []) ?_ ?_
    · simp only[List.map_cons,grounds,tupL,ob_some]
      rw[if_pos (hl y)]
    · exact gb y _ _ (λs h' hh=>by subst hh;exact J.rng hl gf gb ys s) s
theorem grK_normal{K0:List Id}{e0:Env}{nx:Heap->Option AV}:grK K0 e0 nx .normal e h=nx (sweep K0 e0 h):=rfl
theorem J.rnext{σ:Type}{h1:σ→Heap}{next:σ→Option β}{nx:Heap→Option AV}{K0:List Id}{e0:Env}{s:σ}(hn: ∀ s h',h'=h1 s→J (nx h') (next s) enc)(hh:sweep K0 e0 h=h1 s):
    J (grK K0 e0 nx .normal e h) (next s) enc:=hn s _ hh
theorem J.gr{m:Option AV}{α σ:Type}{pb:α->(σ->Option β)->σ->Option β}{pf:σ->Option β}{ys:List α}{s0:σ}(j:J m (lloop pb pf ys s0) enc):J m (lloop pb pf ys s0) enc:=j
def eyI(y:Int×List Int):List AV:=[.v (.int .i64 y.1),.arr y.2.length (lm (ik .i64) y.2)]
theorem J.rngT{i t0:Nat}{σ:Type}(L:LJ i t0 Unit σ){pb:Int×List Int→(σ→Option β)→σ→Option β}{pf:σ→Option β}{e0:Env}{h1:σ→Heap}{K0:List Id}{p q:Tmp}{ys:List (Int×List Int)}{s0:σ}(ht:cid body=t0)
    (hv: ∀ s,L.v () s h=h1 s) (hh:h=h1 s0)
    (gf: ∀ s,J (ret P C cp ci lvl prot D n K fs .normal e0 (h1 s)) (pf s) enc)
    (gb: ∀ (y:Int×List Int) (next:σ->Option β) (nx:Heap->Option AV),(∀ s h',h'=h1 s->J (nx h') (next s) enc)-> ∀ s,J (go P C cp ci lvl K0 D n (grK K0 e0 nx) (.seq asg body) (setPs e0 [p,q] (eyI y)) (h1 s) []) (pb y next s) enc):
    J (grounds P C cp ci lvl prot D n K K0 asg body e0 [p,q] fs (ys.map λy=> .tuple (eyI y)) h) (lloop pb pf ys s0) enc:=by
  subst hh
  exact J.rng (ey:=eyI) (λ_=>rfl) gf gb ys s0
theorem J.rnextT{σ:Type}{h1:σ->Heap}{next:σ->Option β}{nx:Heap->Option AV}{s:σ}(hn: ∀ s h',h'=h1 s->J (nx h') (next s) enc)(hh:h=h1 s):J (nx h) (next s) enc:=hn s _ hh
def gfn(P:Program)(C:Cfg)(cp:CallP)(ci:CallI)(lvl:Nat)(prot:List Id)(D:List (Nat×List Nat))(n:Nat)(K:KK)(asg body:Code)(e:Env)(ps:List Tmp)(fs:List Fr)(h:Heap):AV→Option AV
  | .fn k [] cap=>grng P C cp ci lvl prot D n K asg body e ps fs h k cap
  |_=>none
theorem gfn_at{k:FuncId}{cap:List AV}{ps:List Tmp}:gfn P C cp ci lvl prot D n K asg body e ps fs h (.fn k [] cap)=grng P C cp ci lvl prot D n K asg body e ps fs h k cap:=rfl
theorem go_rangeX{g:Operand}{ps:List Tmp}:go P C cp ci lvl prot D n K (.rangeFunc g ⟨ps⟩ asg body) e h fs=(opnd e.get g).bind (gfn P C cp ci lvl prot D n K asg body e ps fs h):=by
  cases hg:opnd e.get g with
  |none=>unfold go;simp only[exec,hg,ob_none]
  | some v=>
    rw[ob_some]
    cases v with
    | fn k first cap=>
      cases first with
      |nil=>exact go_range hg
      | cons y ys=>
        unfold go
        simp only[exec,hg,ob_some,fnOf,List.isEmpty_cons,Bool.false_eq_true,if_false]
        cases optL (exportV h.get 4) cap <;> simp only[ob_some,ob_none] <;> rfl
    |_=>unfold go;simp only[exec,hg,ob_some,fnOf,ob_none];rfl
theorem grng_at{k:FuncId}{cap:List AV}{ps:List Tmp}:grng P C cp ci lvl prot D n K asg body e ps fs h k cap=(optL (exportV h.get 4) cap).bind λxs=>(ci 0 k xs (seqH h cap)).bind (grun P C cp ci lvl prot D n K asg body e ps fs (seqH h cap)):=rfl
theorem grun_at{ps:List Tmp}{ys:List AV}{h9:Heap}:grun P C cp ci lvl prot D n K asg body e ps fs h (.newbx ys,h9)=grounds P C cp ci lvl prot D n K (keys h) asg body e ps fs ys h:=rfl
def cyB(h:Heap)(ys:List AV):Option (AV×Heap):=some (.newbx ys,h)
theorem cyB_at{ys:List AV}:cyB h ys=some (.newbx ys,h):=rfl
theorem ciY_at{f:FuncId}{c:List AV->Option (List AV)}{as:List AV}:ciY f c ci 0 f as h=(c as).bind (cyB h):=by simp only[ciY,if_true];rfl
theorem ciY_succ{f k:FuncId}{c:List AV->Option (List AV)}{as:List AV}:ciY f c ci (lvl+1) k as h=ci (lvl+1) k as h:=rfl
theorem seqH_at{cap:List AV}:seqH h cap=freezeAll h ((cap.map (borrowed h.get 4)).flatten):=rfl
theorem setPs_cons{p:Tmp}{ps:List Tmp}{x:AV}{xs:List AV}:setPs e (p::ps) (x::xs)=setPs (e.set p x) ps xs:=rfl
theorem setPs_nil:setPs e [] []=e:=rfl
theorem eyI_at{y:Int×List Int}:eyI y=[.v (.int .i64 y.1),.arr y.2.length (lm (ik .i64) y.2)]:=rfl
theorem opnd_nf{g:Nat->Option AV}:opnd g (.const .nilFunc)=some (.v .nilFunc):=rfl
def RY:=And.intro @opnd_nf<|And.intro @go_rangeX<|And.intro @gfn_at<|And.intro @grng_at<|And.intro @grun_at<|And.intro @cyB_at<|And.intro @ciY_at<|And.intro @ciY_succ<|And.intro @seqH_at<|And.intro @setPs_cons<|And.intro @setPs_nil<|And.intro @eyI_at @grK_normal
end
abbrev KY:=Ex->Env->Heap->List AV->Option AV
section
variable (P:Program) (C:Cfg) (cp:CallP) (ci:CallI) (lvl:Nat) (prot:List Id) (D:List (Nat×List Nat)) (n:Nat)
def kY(K:KY)(acc:List AV):KK:=λx e h=>K x e h acc
def goY(c:Code)(e:Env)(h:Heap)(acc:List AV)(K:KY):Option AV:=(execY P C cp ci lvl prot D n c e h).bind λr=>K r.1 r.2.1 r.2.2.1 (acc++r.2.2.2)
def glY(c:Code)(k:Nat)(e:Env)(h:Heap)(acc:List AV)(K:KY):Option AV:=(yloop prot (execY P C cp ci lvl prot D n c) k e h).bind λr=>K r.1 r.2.1 r.2.2.1 (acc++r.2.2.2)
def kS(b:Code)(K:KY):KY:=fun x e h acc=>match x with
  | .normal=>goY P C cp ci lvl prot D n b e h acc K
  |x=>K x e h acc
def kB(id:Nat)(K:KY):KY:=fun x e h acc=>match x with
  | .exit j=>if j=id then gpost P C cp ci lvl prot D n (kY K acc) (D.getD (2*id+1) (0,[])).2 (e.drop (D.getD (2*id+1) (0,[])).2) h []else K (.exit j) e h acc
  | .normal=>gpost P C cp ci lvl prot D n (kY K acc) (D.getD (2*id+1) (0,[])).2 (e.drop (D.getD (2*id+1) (0,[])).2) h []
  | .ret=>K .ret e h acc
def kL(c:Code)(k:Nat)(K:KY):KY:=fun x e h acc=>match x with
  | .normal=>glY P C cp ci lvl prot D n c k e h acc K
  |x=>K x e h acc
def gcY(a b:Code)(e:Env)(h:Heap)(acc:List AV)(K:KY):AV→Option AV
  | .v (.bool true)=>goY P C cp ci lvl prot D n a e h acc K
  | .v (.bool false)=>goY P C cp ci lvl prot D n b e h acc K
  |_=>none
def gY(al:Option Nat)(all os:List Oper)(e:Env)(h:Heap)(acc:List AV)(dr:List Nat)(K:KY):Option AV:=
  (aopsY P C cp ci lvl all al os e h).bind λr=>gpost P C cp ci lvl prot D n (kY K (acc++r.2.2)) dr (r.1.drop dr) r.2.1 []
def gnY(al:Option Nat)(all os:List Oper)(d:Option Tmp)(e:Env)(acc:List AV)(dr:List Nat)(K:KY)(r:AV×Heap):Option AV:=gY P C cp ci lvl prot D n al all os (putE e d r.1) r.2 acc dr K
def gyY(all os:List Oper)(d:Option Tmp)(e:Env)(h:Heap)(acc:List AV)(dr:List Nat)(K:KY)(as:List AV):Option AV:=
  (optL (exportV h.get 4) as).bind λbs=>gY P C cp ci lvl prot D n none all os (putE e d (.v (.bool true))) (seqH h as) (acc++[.tuple bs]) dr K
def kF:KY:=fun x _ _ acc=>match x with
  | .exit _=>none
  |_=>some (.tuple acc)
end
section
variable {P:Program} {C:Cfg} {cp:CallP} {ci:CallI} {lvl:Nat} {prot:List Id} {D:List (Nat×List Nat)} {n:Nat} {K:KY}
variable {e:Env} {h:Heap} {acc:List AV} {a b c:Code} {x:Ex}
theorem kY_at:kY K acc x e h=K x e h acc:=rfl
theorem kS_normal:kS P C cp ci lvl prot D n b K .normal e h acc=goY P C cp ci lvl prot D n b e h acc K:=rfl
theorem kS_exit{j:Nat}:kS P C cp ci lvl prot D n b K (.exit j) e h acc=K (.exit j) e h acc:=rfl
theorem kS_ret:kS P C cp ci lvl prot D n b K .ret e h acc=K .ret e h acc:=rfl
theorem kB_exit{id j:Nat}:kB P C cp ci lvl prot D n id K (.exit j) e h acc=if j=id then gpost P C cp ci lvl prot D n (kY K acc) (D.getD (2*id+1) (0,[])).2 (e.drop (D.getD (2*id+1) (0,[])).2) h []else K (.exit j) e h acc:=rfl
theorem kB_normal{id:Nat}:kB P C cp ci lvl prot D n id K .normal e h acc=gpost P C cp ci lvl prot D n (kY K acc) (D.getD (2*id+1) (0,[])).2 (e.drop (D.getD (2*id+1) (0,[])).2) h []:=rfl
theorem kL_normal{k:Nat}:kL P C cp ci lvl prot D n c k K .normal e h acc=glY P C cp ci lvl prot D n c k e h acc K:=rfl
theorem kL_exit{k j:Nat}:kL P C cp ci lvl prot D n c k K (.exit j) e h acc=K (.exit j) e h acc:=rfl
theorem gcY_t:gcY P C cp ci lvl prot D n a b e h acc K (.v (.bool true))=goY P C cp ci lvl prot D n a e h acc K:=rfl
theorem gcY_f:gcY P C cp ci lvl prot D n a b e h acc K (.v (.bool false))=goY P C cp ci lvl prot D n b e h acc K:=rfl
theorem goY_skip:goY P C cp ci lvl prot D n .skip e h acc K=K .normal e h acc:=by simp[goY,execY,exec]
theorem goY_exit{j:Nat}:goY P C cp ci lvl prot D n (.exit j) e h acc K=K (.exit j) e h acc:=by simp[goY,execY,exec]
theorem goY_ret:goY P C cp ci lvl prot D n .ret e h acc K=K .ret e h acc:=by simp[goY,execY,exec]
theorem goY_scope:goY P C cp ci lvl prot D n (.scope c) e h acc K=goY P C cp ci lvl prot D n c e h acc K:=rfl
theorem goY_loop:goY P C cp ci lvl prot D n (.loop c) e h acc K=glY P C cp ci lvl prot D n c n e h acc K:=rfl
theorem goY_seq:goY P C cp ci lvl prot D n (.seq a b) e h acc K=goY P C cp ci lvl prot D n a e h acc (kS P C cp ci lvl prot D n b K):=by
  unfold goY
  simp only[execY]
  cases execY P C cp ci lvl prot D n a e h with
  |none=>rfl
  | some r=>
    obtain⟨x,e1,h1,ys⟩:=r
    cases x with
    | normal=>
      simp only[ob_some,kS,goY]
      cases execY P C cp ci lvl prot D n b e1 h1 with
      |none=>rfl
      |some r=>simp only[ob_some,List.append_assoc]
    |exit j=>rfl
    |ret=>rfl
theorem goY_cond{c:Operand}:goY P C cp ci lvl prot D n (.cond c a b) e h acc K=(opnd e.get c).bind (gcY P C cp ci lvl prot D n a b (dropO D c e) h acc K):=by
  unfold goY
  simp only[execY]
  cases opnd e.get c with
  |none=>rfl
  | some v=>
    simp only[ob_some]
    cases v with
    | v w=>
      cases w with
      |bool t=>cases t <;> rfl
      |_=>rfl
    |_=>rfl
theorem goY_block{id:Nat}:goY P C cp ci lvl prot D n (.block id c) e h acc K=goY P C cp ci lvl prot D n c e h acc (kB P C cp ci lvl prot D n id K):=by
  unfold goY
  simp only[execY]
  cases execY P C cp ci lvl prot D n c e h with
  |none=>rfl
  | some r=>
    obtain⟨x,e1,h1,ys⟩:=r
    cases x with
    | normal=>
      simp only[ob_some,kB,gpost]
      cases post lvl prot (D.getD (2*id+1) (0,[])).2 (e1.drop (D.getD (2*id+1) (0,[])).2) h1 <;> rfl
    | exit j=>
      simp only[ob_some,kB,gpost]
      by_cases hj:j=id
      · rw[if_pos hj,if_pos hj]
        cases post lvl prot (D.getD (2*id+1) (0,[])).2 (e1.drop (D.getD (2*id+1) (0,[])).2) h1 <;> rfl
      · rw[if_neg hj,if_neg hj];rfl
    |ret=>rfl
theorem glY_succ{k:Nat}:glY P C cp ci lvl prot D n c (k+1) e h acc K=goY P C cp ci lvl prot D n c e (sweep prot e h) acc (kL P C cp ci lvl prot D n c k K):=by
  unfold glY goY
  simp only[yloop]
  cases execY P C cp ci lvl prot D n c e (sweep prot e h)with
  |none=>rfl
  | some r=>
    obtain⟨x,e1,h1,ys⟩:=r
    cases x with
    | normal=>
      simp only[ob_some,kL,glY]
      cases yloop prot (execY P C cp ci lvl prot D n c) k e1 h1 with
      |none=>rfl
      |some r=>simp only[ob_some,List.append_assoc]
    |exit j=>rfl
    |ret=>rfl
theorem goY_region{id:Nat}{ops:List Oper}(hy:hasY ops=false):goY P C cp ci lvl prot D n (.region id ⟨ops⟩ false) e h acc K=go P C cp ci lvl prot D n (kY K acc) (.region id ⟨ops⟩ false) e h []:=by
  unfold goY go
  simp only[execY,hy,Bool.false_eq_true,if_false]
  cases exec P C cp ci lvl prot D n (.region id ⟨ops⟩ false) e h with
  |none=>rfl
  |some r=>simp only[ob_some,List.append_nil];rfl
theorem goY_regionY{id:Nat}{ops:List Oper}(hy:hasY ops=true):goY P C cp ci lvl prot D n (.region id ⟨ops⟩ false) e h acc K=gY P C cp ci lvl prot D n none ops ops e h acc (D.getD (2*id) (0,[])).2 K:=by
  unfold goY gY
  simp only[execY,hy,if_true]
  cases aopsY P C cp ci lvl ops none ops e h with
  |none=>rfl
  | some r=>
    simp only[ob_some,gpost]
    cases post lvl prot (D.getD (2*id) (0,[])).2 (r.1.drop (D.getD (2*id) (0,[])).2) r.2.1 <;> rfl
variable {al:Option Nat} {all os:List Oper} {dr:List Nat}
theorem gY_nil:gY P C cp ci lvl prot D n al all [] e h acc dr K=gpost P C cp ci lvl prot D n (kY K acc) dr (e.drop dr) h []:=by simp only[gY,aopsY,ob_some,List.append_nil]
theorem gY_move0{d:Nat}{ty pos after}:gY P C cp ci lvl prot D n al all (⟨some d,.move (.tmp 0),ty,pos,after,none⟩::os) e h acc dr K=gY P C cp ci lvl prot D n (some d) all os (e.drop [d]) h acc dr K:=by
  simp only[gY,aopsY,wantedA,wantedF,ob_some,isY,if_true]
theorem gY_yield{d:Nat}{q:Option Tmp}{args:List Operand}{ts ty pos after}:gY P C cp ci lvl prot D n (some d) all (⟨q,.call ⟨.value (.tmp d),⟨args⟩,ts⟩,ty,pos,after,none⟩::os) e h acc dr K=
    (optL (opnd e.get) args).bind (gyY P C cp ci lvl prot D n all os q e h acc dr K):=by
  simp only[gY,aopsY,wantedA,wantedF,ob_some,isY,Bool.false_eq_true,if_false,if_true,yArgs]
  cases optL (opnd e.get) args with
  |none=>rfl
  | some as=>
    simp only[ob_some,gyY]
    cases optL (exportV h.get 4) as with
    |none=>rfl
    | some bs=>
      simp only[ob_some,gY]
      cases aopsY P C cp ci lvl all none os (putE e q (.v (.bool true))) (seqH h as)with
      |none=>rfl
      |some r=>simp only[ob_some,List.append_assoc,List.singleton_append]
theorem gY_op{d:Nat}{op ty pos after}(h1:isY op=false)(h2:yArgs al op=none)(h3:al≠some d):gY P C cp ci lvl prot D n al all (⟨some d,op,ty,pos,after,none⟩::os) e h acc dr K=(aop P C cp ci lvl e h (some d) op).bind (gnY P C cp ci lvl prot D n al all os (some d) e acc dr K):=by
  simp only[gY,aopsY,wantedA,wantedF,ob_some,h1,h2,Bool.false_eq_true,if_false,if_true]
  rw[if_neg (λhh=>h3 hh.symm)]
  cases aop P C cp ci lvl e h (some d) op with
  |none=>rfl
  |some r=>rfl
theorem gnY_at{d:Option Tmp}{y:AV}:gnY P C cp ci lvl prot D n al all os d e acc dr K (y,h)=gY P C cp ci lvl prot D n al all os (putE e d y) h acc dr K:=rfl
theorem gyY_at{d:Option Tmp}{as:List AV}:gyY P C cp ci lvl prot D n all os d e h acc dr K as=(optL (exportV h.get 4) as).bind λbs=>gY P C cp ci lvl prot D n none all os (putE e d (.v (.bool true))) (seqH h as) (acc++[.tuple bs]) dr K:=rfl
theorem bodyY_of{i:FInfo}{args ys:List AV}(hr:i.results.isEmpty=true)(hg:goY P C cp ci 0 [] D n i.code (initE 1 args) [] [] kF=some (.tuple ys)):bodyY P C cp ci n D i args=some ys:=by
  unfold goY at hg
  unfold bodyY
  cases hx:execY P C cp ci 0 [] D n i.code (initE 1 args) []with
  |none=>rw[hx]at hg;cases hg
  | some r=>
    obtain⟨x,e1,h1,zs⟩:=r
    rw[hx]at hg
    cases x with
    |exit j=>cases hg
    | normal=>
      simp only[ob_some,kF,List.nil_append,Option.some.injEq,AV.tuple.injEq]at hg
      simp only[ob_some,hr,if_true,hg]
    | ret=>
      simp only[ob_some,kF,List.nil_append,Option.some.injEq,AV.tuple.injEq]at hg
      simp only[ob_some,hr,if_true,hg]
def RQ:=And.intro @kY_at<|And.intro @kS_normal<|And.intro @kS_exit<|And.intro @kB_exit<|And.intro @kB_normal<|And.intro @kL_normal<|And.intro @kL_exit<|And.intro @gcY_t<|And.intro @gcY_f<|And.intro @goY_skip<|And.intro @goY_exit<|And.intro @goY_loop<|And.intro @goY_seq<|And.intro @goY_cond<|And.intro @goY_block<|
  And.intro @goY_region<|And.intro @goY_regionY<|And.intro @gY_nil<|And.intro @gY_move0<|And.intro @gY_yield<|And.intro @gY_op<|And.intro @gnY_at<|And.intro @gyY_at @seqH_at
end
end Go.Av
