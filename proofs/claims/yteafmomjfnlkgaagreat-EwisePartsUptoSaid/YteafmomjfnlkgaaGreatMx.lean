/- The interpreter as a machine with a list of frames; when a plain function tells what it makes (J); rules. Conditions: those that each names. -/
import Derived.Test.YteafmomjfnlkgaaGreatSh4
set_option linter.unusedVariables false
namespace Go.Av
inductive Fr where
  |seq (b:Code)
  |seqr (b:Code)
  |block (id:Nat)
  |loop (c:Code) (k:Nat)
  |sw
  |bar
abbrev KK:=Ex->Env->Heap->Option AV
section
variable (P:Program) (C:bn) (cp:af) (ci:bg) (lvl:Nat) (prot:List Id) (D:List (Nat×List Nat)) (n:Nat) (K:KK)
def ret:List Fr→KK
  |[]=>K
  | .seq b::fs=>fun y e h=>match y with
    | .normal=>(exec P C cp ci lvl prot D n b e h).bind λr=>ret fs r.1 r.2.1 r.2.2
    |y=>ret fs y e h
  | .seqr b::fs=>fun y e h=>match y with
    | .normal=>(exec P C cp ci lvl prot D n b e h).bind λr=>ret fs r.1 r.2.1 r.2.2
    |y=>ret fs y e h
  | .block id::fs=>fun y e h=>match y with
    | .exit j=>if j=id then(post lvl prot (D.getD (2*id+1) (0,[])).2 (e.drop (D.getD (2*id+1) (0,[])).2) h).bind λr=>ret fs .normal r.1 r.2 else ret fs (.exit j) e h
    | .normal=>(post lvl prot (D.getD (2*id+1) (0,[])).2 (e.drop (D.getD (2*id+1) (0,[])).2) h).bind λr=>ret fs .normal r.1 r.2
    | .ret=>ret fs .ret e h
  | .sw::fs=>fun y e h=>match y with
    | .normal=>ret fs .normal e (sweep prot e h)
    |y=>ret fs y e h
  | .loop c k::fs=>fun y e h=>match y with
    | .normal=>(wC prot (exec P C cp ci lvl prot D n c) k e h).bind λr=>ret fs r.1 r.2.1 r.2.2
    |y=>ret fs y e h
  | .bar::fs=>ret fs
def go(c:Code)(e:Env)(h:Heap)(fs:List Fr):Option AV:=(exec P C cp ci lvl prot D n c e h).bind λr=>ret P C cp ci lvl prot D n K fs r.1 r.2.1 r.2.2
def gl(c:Code)(k:Nat)(e:Env)(h:Heap)(fs:List Fr):Option AV:=(wC prot (exec P C cp ci lvl prot D n c) k e h).bind λr=>ret P C cp ci lvl prot D n K fs r.1 r.2.1 r.2.2
def fK(ds:List Nat)(e:Env)(h:Heap)(fs:List Fr):Option AV:=(post lvl prot ds e h).bind λr=>ret P C cp ci lvl prot D n K fs .normal r.1 r.2
def jH(all os:List Oper)(e:Env)(h:Heap)(dr:Nat×List Nat)(fs:List Fr):Option AV:=(iD P C cp ci lvl all os e h).bind λr=>fK P C cp ci lvl prot D n K dr.2 (r.1.drop dr.2) r.2 fs
def pO(k:Nat)(all os:List Oper)(e:Env)(h:Heap)(dr:Nat×List Nat)(fs:List Fr):Option AV:=(jU P C cp ci lvl all k os e h).bind λr=>fK P C cp ci lvl prot D n K dr.2 (r.1.drop dr.2) r.2 fs
def PR(all os:List Oper)(d:Option Tmp)(e:Env)(dr:Nat×List Nat)(fs:List Fr)(r:AV×Heap):Option AV:=jH P C cp ci lvl prot D n K all os (dF e d r.1) r.2 dr fs
def O8(k:Nat)(all os:List Oper)(d:Option Tmp)(e:Env)(dr:Nat×List Nat)(fs:List Fr)(r:AV×Heap):Option AV:=pO P C cp ci lvl prot D n K k all os (dF e d r.1) r.2 dr fs
def PS(r:Option (AV×Heap))(all os:List Oper)(d:Option Tmp)(e:Env)(h:Heap)(dr:Nat×List Nat)(fs:List Fr)(wd:Bool):Option AV:=
  if wd=true then r.bind (PR P C cp ci lvl prot D n K all os d e dr fs)else jH P C cp ci lvl prot D n K all os (dF e d (.v undef)) h dr fs
def PU(k:Nat)(r:Option (AV×Heap))(all os:List Oper)(d:Option Tmp)(e:Env)(h:Heap)(dr:Nat×List Nat)(fs:List Fr)(wd:Bool):Option AV:=
  if wd=true then r.bind (O8 P C cp ci lvl prot D n K k all os d e dr fs)else pO P C cp ci lvl prot D n K k all os (dF e d (.v undef)) h dr fs
def VZ(a b:Code)(e:Env)(h:Heap)(fs:List Fr):AV→Option AV
  | .v (.bool true)=>go P C cp ci lvl prot D n K a e h (.sw::fs)
  | .v (.bool false)=>go P C cp ci lvl prot D n K b e h (.sw::fs)
  |_=>none
end
section
variable {P:Program} {C:bn} {cp:af} {ci:bg} {lvl:Nat} {prot:List Id} {D:List (Nat×List Nat)} {n:Nat} {K:KK}
variable {e:Env} {h:Heap} {fs:List Fr} {a b c:Code} {all os:List Oper} {dr:Nat×List Nat}
theorem go_skip:go P C cp ci lvl prot D n K .skip e h fs=ret P C cp ci lvl prot D n K fs .normal e h:=rfl
theorem aL7{l}:go P C cp ci lvl prot D n K (.label l) e h fs=ret P C cp ci lvl prot D n K fs .normal e h:=rfl
theorem go_ret:go P C cp ci lvl prot D n K .ret e h fs=ret P C cp ci lvl prot D n K fs .ret e h:=rfl
theorem aI3{i}:go P C cp ci lvl prot D n K (.exit i) e h fs=ret P C cp ci lvl prot D n K fs (.exit i) e h:=rfl
theorem aF4:go P C cp ci lvl prot D n K (.scope c) e h fs=go P C cp ci lvl prot D n K c e h fs:=rfl
theorem dZ:go P C cp ci lvl prot D n K (.seq a b) e h fs=go P C cp ci lvl prot D n K a e h (.seq b::fs):=by
  unfold go
  rw[arJ]
  cases exec P C cp ci lvl prot D n a e h with
  |none=>rfl
  |some r=>rcases r with⟨_|_|_,_,_⟩ <;> rfl
def aEK(ops:List Oper):Bool:=ops.all λo=>o.guard.isNone
theorem aCT{i:Nat}{ops:List Oper}{d:Bool}(hp:aEK ops=true):go P C cp ci lvl prot D n K (.seq (.region i ⟨ops⟩ d) b) e h fs=go P C cp ci lvl prot D n K (.region i ⟨ops⟩ d) e h (.seqr b::fs):=dZ.trans rfl
theorem auU{i}:go P C cp ci lvl prot D n K (.block i c) e h fs=go P C cp ci lvl prot D n K c e h (.block i::fs):=by
  unfold go
  rw[ar0]
  cases exec P C cp ci lvl prot D n c e h with
  |none=>rfl
  | some r=>
    rcases r with⟨_|j|_,e1,h1⟩
    · simp only[ob_some,WL,ret,oJ]
      cases post lvl prot (D.getD (2*i+1) (0,[])).2 (e1.drop (D.getD (2*i+1) (0,[])).2) h1 <;> rfl
    · simp only[ob_some,WL,ret]
      by_cases hj:j=i
      · rw[if_pos hj,if_pos hj]
        simp only[oJ]
        cases post lvl prot (D.getD (2*i+1) (0,[])).2 (e1.drop (D.getD (2*i+1) (0,[])).2) h1 <;> rfl
      · rw[if_neg hj,if_neg hj];rfl
    · rfl
theorem go_loop:go P C cp ci lvl prot D n K (.loop c) e h fs=gl P C cp ci lvl prot D n K c n e h fs:=rfl
theorem axi{o:Operand}:go P C cp ci lvl prot D n K (.cond o a b) e h fs=(az e.get o).bind (VZ P C cp ci lvl prot D n K a b (qB D o e) h fs):=by
  have hx: ∀ c e h,((exec P C cp ci lvl prot D n c e h).bind (sweepX prot)).bind (fun r=>ret P C cp ci lvl prot D n K fs r.1 r.2.1 r.2.2)=go P C cp ci lvl prot D n K c e h (.sw::fs):=fun c e h=>by
    unfold go
    cases exec P C cp ci lvl prot D n c e h with
    |none=>rfl
    |some r=>rcases r with⟨_|_|_,_,_⟩ <;> rfl
  unfold go
  rw[aGR]
  cases az e.get o with
  |none=>rfl
  | some y=>
    rcases y with x|_|_|_|_|_|_|_|_|_|_ <;> try rfl
    rcases x with _|_|_|_|_|_|_|_|_|_|_|_ <;> try rfl
    rename_i t
    cases t
    · exact hx b (qB D o e) h
    · exact hx a (qB D o e) h
theorem aJB{t:Tmp}(hd:(D.getD (2*t+1) (0,[])).1=0):qB D (.tmp t) e=e.drop [t]:=if_pos hd
theorem az7{t:Tmp}(hd:(D.getD (2*t+1) (0,[])).1=1):qB D (.tmp t) e=e:=if_neg (by rw[hd];decide)
theorem anM{x:Value}:qB D (.const x) e=e:=rfl
theorem aMs:VZ P C cp ci lvl prot D n K a b e h fs (.v (.bool true))=go P C cp ci lvl prot D n K a e h (.sw::fs):=rfl
theorem aIQ:VZ P C cp ci lvl prot D n K a b e h fs (.v (.bool false))=go P C cp ci lvl prot D n K b e h (.sw::fs):=rfl
theorem go_region{i:Nat}{ops:List Oper}:go P C cp ci lvl prot D n K (.region i ⟨ops⟩ false) e h fs=jH P C cp ci lvl prot D n K ops ops e h (D.getD (2*i) (0,[])) fs:=by
  unfold go jH
  rw[ay6]
  cases iD P C cp ci lvl ops ops e h with
  |none=>rfl
  | some r=>
    simp only[ob_some,oJ,fK]
    cases post lvl prot (D.getD (2*i) (0,[])).2 (r.1.drop (D.getD (2*i) (0,[])).2) r.2 <;> rfl
theorem aLH{i:Nat}{ops:List Oper}(hk:(D.getD (2*i) (0,[])).1<1000):go P C cp ci lvl prot D n K (.region i ⟨ops⟩ true) e h fs=pO P C cp ci lvl prot D n K (D.getD (2*i) (0,[])).1 ops ops e h (D.getD (2*i) (0,[])) fs:=by
  unfold go pO
  rw[IB]
  unfold qh
  rw[if_pos hk]
  cases jU P C cp ci lvl ops (D.getD (2*i) (0,[])).1 ops e h with
  |none=>rfl
  | some r=>
    simp only[ob_some,oJ,fK]
    cases post lvl prot (D.getD (2*i) (0,[])).2 (r.1.drop (D.getD (2*i) (0,[])).2) r.2 <;> rfl
theorem aKC{y}:ret P C cp ci lvl prot D n K [] y e h=K y e h:=rfl
theorem dS:ret P C cp ci lvl prot D n K (.seq b::fs) .normal e h=go P C cp ci lvl prot D n K b e h fs:=rfl
theorem aG0:ret P C cp ci lvl prot D n K (.seqr b::fs) .normal e h=go P C cp ci lvl prot D n K b e h fs:=rfl
theorem arY:ret P C cp ci lvl prot D n K (.seqr b::fs) .ret e h=ret P C cp ci lvl prot D n K fs .ret e h:=rfl
theorem atg{i}:ret P C cp ci lvl prot D n K (.seqr b::fs) (.exit i) e h=ret P C cp ci lvl prot D n K fs (.exit i) e h:=rfl
theorem anc:ret P C cp ci lvl prot D n K (.seq b::fs) .ret e h=ret P C cp ci lvl prot D n K fs .ret e h:=rfl
theorem aBQ{i}:ret P C cp ci lvl prot D n K (.seq b::fs) (.exit i) e h=ret P C cp ci lvl prot D n K fs (.exit i) e h:=rfl
theorem aIg{i}:ret P C cp ci lvl prot D n K (.block i::fs) .normal e h=fK P C cp ci lvl prot D n K (D.getD (2*i+1) (0,[])).2 (e.drop (D.getD (2*i+1) (0,[])).2) h fs:=rfl
theorem am4:ret P C cp ci lvl prot D n K (.sw::fs) .normal e h=ret P C cp ci lvl prot D n K fs .normal e (sweep prot e h):=rfl
theorem aA7:ret P C cp ci lvl prot D n K (.sw::fs) .ret e h=ret P C cp ci lvl prot D n K fs .ret e h:=rfl
theorem aIn{i}:ret P C cp ci lvl prot D n K (.sw::fs) (.exit i) e h=ret P C cp ci lvl prot D n K fs (.exit i) e h:=rfl
theorem asz{i}:ret P C cp ci lvl prot D n K (.block i::fs) .ret e h=ret P C cp ci lvl prot D n K fs .ret e h:=rfl
theorem aF9{i j}:ret P C cp ci lvl prot D n K (.block i::fs) (.exit j) e h=if j=i then fK P C cp ci lvl prot D n K (D.getD (2*i+1) (0,[])).2 (e.drop (D.getD (2*i+1) (0,[])).2) h fs else ret P C cp ci lvl prot D n K fs (.exit j) e h:=rfl
theorem ax8{k}:ret P C cp ci lvl prot D n K (.loop c k::fs) .normal e h=gl P C cp ci lvl prot D n K c k e h fs:=rfl
theorem ane{k}:ret P C cp ci lvl prot D n K (.loop c k::fs) .ret e h=ret P C cp ci lvl prot D n K fs .ret e h:=rfl
theorem aFU{k i}:ret P C cp ci lvl prot D n K (.loop c k::fs) (.exit i) e h=ret P C cp ci lvl prot D n K fs (.exit i) e h:=rfl
theorem azo:ret P C cp ci lvl prot D n K (.bar::fs) .ret e h=ret P C cp ci lvl prot D n K fs .ret e h:=rfl
theorem auF{i}:ret P C cp ci lvl prot D n K (.bar::fs) (.exit i) e h=ret P C cp ci lvl prot D n K fs (.exit i) e h:=rfl
theorem arC{k ds}:jH P C cp ci lvl prot D n K all [] e h (k,ds) fs=fK P C cp ci lvl prot D n K ds (e.drop ds) h fs:=rfl
theorem aAr{d op ty pos after}:jH P C cp ci lvl prot D n K all (⟨d,op,ty,pos,after,none⟩::os) e h dr fs=
  (bW P C cp ci lvl e h d op).bind (PR P C cp ci lvl prot D n K all os d e dr fs):=by
  unfold jH
  rw[aBn]
  cases bW P C cp ci lvl e h d op <;> rfl
theorem av6{d y}:PR P C cp ci lvl prot D n K all os d e dr fs (y,h)=jH P C cp ci lvl prot D n K all os (dF e d y) h dr fs:=rfl
theorem aqE{d op ty pos after g}:jH P C cp ci lvl prot D n K all (⟨d,op,ty,pos,after,some g⟩::os) e h dr fs=
  (nV all e.get ⟨d,op,ty,pos,after,some g⟩).bind (PS P C cp ci lvl prot D n K (bW P C cp ci lvl e h d op) all os d e h dr fs):=by
  unfold jH
  rw[aKv]
  cases nV all e.get ⟨d,op,ty,pos,after,some g⟩with
  |none=>rfl
  | some wd=>
    cases wd with
    |false=>rfl
    | true=>
      simp only[ob_some,adU,PS,if_true]
      cases bW P C cp ci lvl e h d op <;> rfl
theorem awk{r d}:PS P C cp ci lvl prot D n K r all os d e h dr fs true=r.bind (PR P C cp ci lvl prot D n K all os d e dr fs):=rfl
theorem aon{r d}:PS P C cp ci lvl prot D n K r all os d e h dr fs false=jH P C cp ci lvl prot D n K all os (dF e d (.v undef)) h dr fs:=rfl
theorem awq:pO P C cp ci lvl prot D n K 0 all os e h dr fs=jH P C cp ci lvl prot D n K all os e h dr fs:=by
  unfold pO jH;rw[ayC]
theorem aBs{k k' ds}:pO P C cp ci lvl prot D n K (k+1) all [] e h (k',ds) fs=fK P C cp ci lvl prot D n K ds (e.drop ds) h fs:=rfl
theorem aL4{k d op ty pos after}:pO P C cp ci lvl prot D n K (k+1) all (⟨d,op,ty,pos,after,none⟩::os) e h dr fs=
  (qo lvl (d.getD 0) h (bF P C cp e.get h.get op)).bind (O8 P C cp ci lvl prot D n K k all os d e dr fs):=by
  unfold pO
  rw[axN]
  cases qo lvl (d.getD 0) h (bF P C cp e.get h.get op) <;> rfl
theorem ay9{k d y}:O8 P C cp ci lvl prot D n K k all os d e dr fs (y,h)=pO P C cp ci lvl prot D n K k all os (dF e d y) h dr fs:=rfl
theorem axt{k d op ty pos after g}:pO P C cp ci lvl prot D n K (k+1) all (⟨d,op,ty,pos,after,some g⟩::os) e h dr fs=
  (nV all e.get ⟨d,op,ty,pos,after,some g⟩).bind (PU P C cp ci lvl prot D n K k (qo lvl (d.getD 0) h (bF P C cp e.get h.get op)) all os d e h dr fs):=by
  unfold pO
  rw[atz]
  cases nV all e.get ⟨d,op,ty,pos,after,some g⟩with
  |none=>rfl
  | some wd=>
    cases wd with
    |false=>rfl
    | true=>
      simp only[ob_some,adU,PU,if_true]
      cases qo lvl (d.getD 0) h (bF P C cp e.get h.get op) <;> rfl
theorem aEC{k r d}:PU P C cp ci lvl prot D n K k r all os d e h dr fs true=r.bind (O8 P C cp ci lvl prot D n K k all os d e dr fs):=rfl
theorem arw{k r d}:PU P C cp ci lvl prot D n K k r all os d e h dr fs false=pO P C cp ci lvl prot D n K k all os (dF e d (.v undef)) h dr fs:=rfl
theorem aLA:fK P C cp ci lvl prot D n K [] e h fs=ret P C cp ci lvl prot D n K fs .normal e h:=rfl
theorem aI4{k ks}(hk:k<1000000):fK P C cp ci lvl prot D n K (k::ks) e h fs=fK P C cp ci lvl prot D n K ks e h fs:=by
  simp only[fK,post,if_pos hk]
def He(P:Program)(C:bn)(cp:af)(ci:bg)(lvl:Nat)(prot:List Id)(D:List (Nat×List Nat))(n:Nat)(K:KK)(k:Nat)(ks:List Nat)(e:Env)(h:Heap)(fs:List Fr):AV→Option AV
  | .v (.slice none 0 0)=>(h.new (lvl,k%1000000,77) (.sl true true (k / 1000000) 0 [])).bind λh'=>fK P C cp ci lvl prot D n K ks (e.set (k%1000000) (.own (lvl,k%1000000,77) 0 0 0)) h' fs
  |_=>fK P C cp ci lvl prot D n K ks e h fs
theorem aJS{k ks}(hk:1000000≤k)(hk2:k<1000000000):fK P C cp ci lvl prot D n K (k::ks) e h fs=(e.get (k%1000000)).bind (He P C cp ci lvl prot D n K k ks e h fs):=by
  simp only[fK,post,if_neg (show ¬ k<1000000 by omega),if_pos hk2]
  cases e.get (k%1000000)with
  |none=>rfl
  | some x=>
    rw[ob_some]
    unfold He
    split
    · rename_i he
      injection he with he
      subst he
      cases h.new (lvl,k%1000000,77) (.sl true true (k / 1000000) 0 []) <;> rfl
    · rename_i y hne he
      injection he with he
      subst he
      split
      · exact(hne rfl).elim
      · rfl
    · rename_i he
      cases he
theorem aFL{k ks id o m x}:He P C cp ci lvl prot D n K k ks e h fs (.own id o m x)=fK P C cp ci lvl prot D n K ks e h fs:=rfl
theorem aH4{k ks m xs}:He P C cp ci lvl prot D n K k ks e h fs (.arr m xs)=fK P C cp ci lvl prot D n K ks e h fs:=rfl
theorem aqm{k ks}:He P C cp ci lvl prot D n K k ks e h fs (.v (.slice none 0 0))=(h.new (lvl,k%1000000,77) (.sl true true (k / 1000000) 0 [])).bind λh'=>fK P C cp ci lvl prot D n K ks (e.set (k%1000000) (.own (lvl,k%1000000,77) 0 0 0)) h' fs:=rfl
theorem aJs{k ks}(hk:2000000000≤k)(hk2:k<3000000000):fK P C cp ci lvl prot D n K (k::ks) e h fs=fK P C cp ci lvl prot D n K ks e (sweep prot e h) fs:=by
  simp only[fK,post,if_neg (show ¬ k<1000000 by omega),if_neg (show ¬ k<1000000000 by omega),if_neg (show ¬ 4000000000<=k by omega),if_neg (show ¬ 3000000000<=k by omega),if_pos hk]
def aeM(P:Program)(C:bn)(cp:af)(ci:bg)(lvl:Nat)(prot:List Id)(D:List (Nat×List Nat))(n:Nat)(K:KK)(ks:List Nat)(fs:List Fr)(r:Env×Heap):Option AV:=fK P C cp ci lvl prot D n K ks r.1 r.2 fs
theorem aME{ks}:aeM P C cp ci lvl prot D n K ks fs (e,h)=fK P C cp ci lvl prot D n K ks e h fs:=rfl
theorem axk{k ks}(hk:3000000000≤k)(hk2:k<4000000000):fK P C cp ci lvl prot D n K (k::ks) e h fs=(shrink prot (k%1000000) e h).bind (aeM P C cp ci lvl prot D n K ks fs):=by
  simp only[fK,post,if_neg (show ¬ k<1000000 by omega),if_neg (show ¬ k<1000000000 by omega),if_neg (show ¬ 4000000000<=k by omega),if_pos hk]
  cases shrink prot (k%1000000) e h <;> rfl
theorem aAx{k ks}(hk:4000000000≤k):fK P C cp ci lvl prot D n K (k::ks) e h fs=(EQ lvl (k%1000000) (k / 1000000%1000) (k / 1000000000 - 4) e h).bind fun h'=>fK P C cp ci lvl prot D n K ks e h' fs:=by
  simp only[fK,post,if_neg (show ¬ k<1000000 by omega),if_neg (show ¬ k<1000000000 by omega),if_pos hk]
  cases EQ lvl (k%1000000) (k / 1000000%1000) (k / 1000000000 - 4) e h <;> rfl
theorem aEE{k ks}(hk:1000000000≤k)(hk2:k<2000000000):fK P C cp ci lvl prot D n K (k::ks) e h fs=(e.get (k%1000000)).bind fun x=>(aG h.get 4 x).bind fun y=>
   fK P C cp ci lvl prot D n K ks (e.set (k%1000000) y) (dH h (aO h.get 4 x)) fs:=by
  simp only[fK,post,if_neg (show ¬ k<1000000 by omega),if_neg (show ¬ k<1000000000 by omega),if_neg (show ¬ 4000000000<=k by omega),if_neg (show ¬ 3000000000<=k by omega),if_neg (show ¬ 2000000000<=k by omega)]
  cases e.get (k%1000000)with
  |none=>rfl
  | some x=>
    simp only[ob_some]
    cases aG h.get 4 x <;> rfl
end
def J{β:Type}(m:Option AV)(s:Option β)(enc:β->AV):Prop:= ∀ b,s=some b->m=some (enc b)
def chk{β:Type}(c:Prop)[Decidable c](s:Option β):Option β:=if c then s else none
def at?{α:Type}(l:List α)(i:Int):Option α:=if 0<=i then l[i.toNat]? else none
def bz{σ β:Type}(body:(σ→Option β)→σ→Option β):Nat→σ→Option β
  |0,_=>none
  |n+1,s=>body (bz body n) s
theorem at?_some{α:Type}{l:List α}{i:Int}{x:α}(h:at? l i=some x):0≤i∧i<l.length∧l[i.toNat]? =some x:=by
  unfold at? at h
  split at h
  · rename_i h0
    have:=(List.getElem?_eq_some_iff.1 h).1
    exact⟨h0,by omega,h⟩
  · cases h
section
variable {β:Type} {m m':Option AV} {s s1 s2:Option β} {enc:β->AV}
theorem J.none:J m (none:Option β) enc:=λb h=>by cases h
theorem J.some{b:β}(h:m=some (enc b)):J m (some b) enc:=λb' hb=>by injection hb with hb;subst hb;exact h
theorem J.eq(h:m=m')(j:J m' s enc):J m s enc:=by subst h;exact j
theorem J.ite{c:Prop}[Decidable c](a:c→J m s1 enc)(b: ¬ c→J m s2 enc):J m (if c then s1 else s2) enc:=by
  by_cases h:c
  · rw[if_pos h];exact a h
  · rw[if_neg h];exact b h
theorem J.chk{c:Prop}[Decidable c](a:c→J m s enc):J m (chk c s) enc:=by
  unfold Go.Av.chk
  exact J.ite a λ_=>J.none
theorem J.bind{γ:Type}{f:Option γ}{k:γ→Option β}(a: ∀ r,f=Option.some r→J m (k r) enc):J m (f.bind k) enc:=fun b h=>by
  cases f with
  |none=>cases h
  |some r=>exact a r rfl b h
theorem J.at{γ:Type}{l:List γ}{i:Int}{k:γ→Option β}(a: ∀ r,0≤i→i<l.length→l[i.toNat]? =Option.some r→J m (k r) enc):J m ((at? l i).bind k) enc:=
  J.bind λr hr=>by obtain⟨h0,h1,h2⟩:=at?_some hr;exact a r h0 h1 h2
variable {P:Program} {C:bn} {cp:af} {ci:bg} {lvl:Nat} {prot:List Id} {D:List (Nat×List Nat)} {n:Nat} {K:KK}
variable {e:Env} {h:Heap} {fs:List Fr} {a b c:Code}
theorem J.loop{σ:Type}(st:σ→Env×Heap)(body:(σ→Option β)→σ→Option β){s0:σ}(he:e=(st s0).1)(hh:sweep prot e h=(st s0).2)
    (hb: ∀ (next:σ→Option β) (k:Nat),(∀ s e h,e=(st s).1→sweep prot e h=(st s).2→J (gl P C cp ci lvl prot D n K c k e h fs) (next s) enc)→
      ∀ s,J (go P C cp ci lvl prot D n K c (st s).1 (st s).2 (.loop c k::fs)) (body next s) enc) {m:Nat}:
    J (gl P C cp ci lvl prot D n K c m e h fs) (bz body m s0) enc:=by
  induction m generalizing s0 e h with
  |zero=>exact J.none
  | succ m ih=>
    have:=hb (bz body m) m (λs e h he hh=>ih he hh) s0
    rw[← he,← hh]at this
    refine J.eq ?_ this
    unfold gl
    simp only[wC,go]
    cases exec P C cp ci lvl prot D n c e (sweep prot e h)with
    |none=>rfl
    |some r=>rcases r with⟨_|_|_,_,_⟩ <;> rfl
theorem J.next{σ:Type}{st:σ→Env×Heap}{next:σ→Option β}{k:Nat}(hn: ∀ s e h,e=(st s).1→sweep prot e h=(st s).2→J (gl P C cp ci lvl prot D n K c k e h fs) (next s) enc){s:σ}
    (he:e=(st s).1) (hh:sweep prot e h=(st s).2):J (gl P C cp ci lvl prot D n K c k e h fs) (next s) enc:=hn s e h he hh
theorem J.afi{τ:Type}(st:τ→Env×Heap)(fj:τ→Option β)(h1: ∀ t,J (go P C cp ci lvl prot D n K b (st t).1 (st t).2 fs) (fj t) enc)
    (h2:(∀ t,J (ret P C cp ci lvl prot D n K (.bar:: .seq b::fs) .normal (st t).1 (st t).2) (fj t) enc)->J (go P C cp ci lvl prot D n K a e h (.bar:: .seq b::fs)) s enc):
    J (go P C cp ci lvl prot D n K (.seq a b) e h fs) s enc:=by
  exact J.eq dZ (J.eq rfl (h2 λt=>h1 t))
theorem J.jmp{τ:Type}{st:τ→Env×Heap}{fj:τ→Option β}(hj: ∀ t,J (ret P C cp ci lvl prot D n K fs .normal (st t).1 (st t).2) (fj t) enc){t:τ}(he:e=(st t).1)(hh:h=(st t).2):
    J (ret P C cp ci lvl prot D n K fs .normal e h) (fj t) enc:=by subst he hh;exact hj t
def fin(P:Program)(rs:List ResultVar)(ts:List TypeId):KK:=fun y e h=>match y with
  | .exit _=>none
  |_=>yx P ⟨.skip,rs,ts⟩ e h
theorem azC{rs ts}:fin P rs ts .ret e h=yx P ⟨.skip,rs,ts⟩ e h:=rfl
theorem axy{rs ts}:fin P rs ts .normal e h=yx P ⟨.skip,rs,ts⟩ e h:=rfl
theorem pJ(hm:P.follows .mixedOrders=true)(hcp:aJ P cp)(hci:dU P ci){f:FuncId}{i:aW}(hi:au P f D=some i){args:List AV}
    (j:J (go P C cp ci 0 [] D n (fin P i.results i.types) i.code (ay 0 args) [] []) s enc) {b:β} (hb:s=some b):aA P f args (enc b):=by
  refine bJ hm (C:=C) hcp hci (n:=n) hi ?_
  have:=j b hb
  unfold go at this
  unfold bI
  cases hx:exec P C cp ci 0 [] D n i.code (ay 0 args) []with
  |none=>rw[hx]at this;cases this
  | some r=>
    rw[hx]at this
    rcases r with⟨_|_|_,_,_⟩
    · exact this
    · cases this
    · exact this
end
end Go.Av
