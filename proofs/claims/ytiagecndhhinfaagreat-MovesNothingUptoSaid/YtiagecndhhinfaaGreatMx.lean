/- The interpreter as a machine with a list of frames; when a plain function tells what it makes (J); rules. Conditions: those that each names. -/
import Derived.Test.YtiagecndhhinfaaGreatSh4
set_option linter.unusedVariables false
namespace Go.Av
inductive Fr where
  |seq (b:Code)
  |seqr (b:Code)
  |block (id:Nat)
  |loop (c:Code) (k:Nat)
  |sw
  |bar
abbrev KK:=Ex->Env->Heap->Option AV
section
variable (P:Program) (C:bG) (cp:aC) (ci:bz) (lvl:Nat) (prot:List Id) (D:List (Nat×List Nat)) (n:Nat) (K:KK)
def ret:List Fr→KK
  |[]=>K
  | .seq b::fs=>fun y e h=>match y with
    | .normal=>(exec P C cp ci lvl prot D n b e h).bind λr=>ret fs r.1 r.2.1 r.2.2
    |y=>ret fs y e h
  | .seqr b::fs=>fun y e h=>match y with
    | .normal=>(exec P C cp ci lvl prot D n b e h).bind λr=>ret fs r.1 r.2.1 r.2.2
    |y=>ret fs y e h
  | .block id::fs=>fun y e h=>match y with
    | .exit j=>if j=id then(post lvl prot (D.getD (2*id+1) (0,[])).2 (e.drop (D.getD (2*id+1) (0,[])).2) h).bind λr=>ret fs .normal r.1 r.2 else ret fs (.exit j) e h
    | .normal=>(post lvl prot (D.getD (2*id+1) (0,[])).2 (e.drop (D.getD (2*id+1) (0,[])).2) h).bind λr=>ret fs .normal r.1 r.2
    | .ret=>ret fs .ret e h
  | .sw::fs=>fun y e h=>match y with
    | .normal=>ret fs .normal e (sweep prot e h)
    |y=>ret fs y e h
  | .loop c k::fs=>fun y e h=>match y with
    | .normal=>(tK prot (exec P C cp ci lvl prot D n c) k e h).bind λr=>ret fs r.1 r.2.1 r.2.2
    |y=>ret fs y e h
  | .bar::fs=>ret fs
def go(c:Code)(e:Env)(h:Heap)(fs:List Fr):Option AV:=(exec P C cp ci lvl prot D n c e h).bind λr=>ret P C cp ci lvl prot D n K fs r.1 r.2.1 r.2.2
def gl(c:Code)(k:Nat)(e:Env)(h:Heap)(fs:List Fr):Option AV:=(tK prot (exec P C cp ci lvl prot D n c) k e h).bind λr=>ret P C cp ci lvl prot D n K fs r.1 r.2.1 r.2.2
def iF(ds:List Nat)(e:Env)(h:Heap)(fs:List Fr):Option AV:=(post lvl prot ds e h).bind λr=>ret P C cp ci lvl prot D n K fs .normal r.1 r.2
def kC(all os:List Oper)(e:Env)(h:Heap)(dr:Nat×List Nat)(fs:List Fr):Option AV:=(ji P C cp ci lvl all os e h).bind λr=>iF P C cp ci lvl prot D n K dr.2 (r.1.drop dr.2) r.2 fs
def qB(k:Nat)(all os:List Oper)(e:Env)(h:Heap)(dr:Nat×List Nat)(fs:List Fr):Option AV:=(kK P C cp ci lvl all k os e h).bind λr=>iF P C cp ci lvl prot D n K dr.2 (r.1.drop dr.2) r.2 fs
def KW(all os:List Oper)(d:Option Tmp)(e:Env)(dr:Nat×List Nat)(fs:List Fr)(r:AV×Heap):Option AV:=kC P C cp ci lvl prot D n K all os (dX e d r.1) r.2 dr fs
def KX(k:Nat)(all os:List Oper)(d:Option Tmp)(e:Env)(dr:Nat×List Nat)(fs:List Fr)(r:AV×Heap):Option AV:=qB P C cp ci lvl prot D n K k all os (dX e d r.1) r.2 dr fs
def KY(r:Option (AV×Heap))(all os:List Oper)(d:Option Tmp)(e:Env)(h:Heap)(dr:Nat×List Nat)(fs:List Fr)(wd:Bool):Option AV:=
  if wd=true then r.bind (KW P C cp ci lvl prot D n K all os d e dr fs)else kC P C cp ci lvl prot D n K all os (dX e d (.v undef)) h dr fs
def KZ(k:Nat)(r:Option (AV×Heap))(all os:List Oper)(d:Option Tmp)(e:Env)(h:Heap)(dr:Nat×List Nat)(fs:List Fr)(wd:Bool):Option AV:=
  if wd=true then r.bind (KX P C cp ci lvl prot D n K k all os d e dr fs)else qB P C cp ci lvl prot D n K k all os (dX e d (.v undef)) h dr fs
def Sr(a b:Code)(e:Env)(h:Heap)(fs:List Fr):AV→Option AV
  | .v (.bool true)=>go P C cp ci lvl prot D n K a e h (.sw::fs)
  | .v (.bool false)=>go P C cp ci lvl prot D n K b e h (.sw::fs)
  |_=>none
end
section
variable {P:Program} {C:bG} {cp:aC} {ci:bz} {lvl:Nat} {prot:List Id} {D:List (Nat×List Nat)} {n:Nat} {K:KK}
variable {e:Env} {h:Heap} {fs:List Fr} {a b c:Code} {all os:List Oper} {dr:Nat×List Nat}
theorem go_skip:go P C cp ci lvl prot D n K .skip e h fs=ret P C cp ci lvl prot D n K fs .normal e h:=rfl
theorem apH{l}:go P C cp ci lvl prot D n K (.label l) e h fs=ret P C cp ci lvl prot D n K fs .normal e h:=rfl
theorem go_ret:go P C cp ci lvl prot D n K .ret e h fs=ret P C cp ci lvl prot D n K fs .ret e h:=rfl
theorem apF{i}:go P C cp ci lvl prot D n K (.exit i) e h fs=ret P C cp ci lvl prot D n K fs (.exit i) e h:=rfl
theorem apL:go P C cp ci lvl prot D n K (.scope c) e h fs=go P C cp ci lvl prot D n K c e h fs:=rfl
theorem gG:go P C cp ci lvl prot D n K (.seq a b) e h fs=go P C cp ci lvl prot D n K a e h (.seq b::fs):=by
  unfold go
  rw[amQ]
  cases exec P C cp ci lvl prot D n a e h with
  |none=>rfl
  |some r=>rcases r with⟨_|_|_,_,_⟩ <;> rfl
def awy(ops:List Oper):Bool:=ops.all λo=>o.guard.isNone
theorem apM{i:Nat}{ops:List Oper}{d:Bool}(hp:awy ops=true):go P C cp ci lvl prot D n K (.seq (.region i ⟨ops⟩ d) b) e h fs=go P C cp ci lvl prot D n K (.region i ⟨ops⟩ d) e h (.seqr b::fs):=gG.trans rfl
theorem apC{i}:go P C cp ci lvl prot D n K (.block i c) e h fs=go P C cp ci lvl prot D n K c e h (.block i::fs):=by
  unfold go
  rw[amN]
  cases exec P C cp ci lvl prot D n c e h with
  |none=>rfl
  | some r=>
    rcases r with⟨_|j|_,e1,h1⟩
    · simp only[ai,PL,ret,oM]
      cases post lvl prot (D.getD (2*i+1) (0,[])).2 (e1.drop (D.getD (2*i+1) (0,[])).2) h1 <;> rfl
    · simp only[ai,PL,ret]
      by_cases hj:j=i
      · rw[if_pos hj,if_pos hj]
        simp only[oM]
        cases post lvl prot (D.getD (2*i+1) (0,[])).2 (e1.drop (D.getD (2*i+1) (0,[])).2) h1 <;> rfl
      · rw[if_neg hj,if_neg hj];rfl
    · rfl
theorem go_loop:go P C cp ci lvl prot D n K (.loop c) e h fs=gl P C cp ci lvl prot D n K c n e h fs:=rfl
theorem apD{o:Operand}:go P C cp ci lvl prot D n K (.cond o a b) e h fs=(aB e.get o).bind (Sr P C cp ci lvl prot D n K a b (qy D o e) h fs):=by
  have hx: ∀ c e h,((exec P C cp ci lvl prot D n c e h).bind (sweepX prot)).bind (fun r=>ret P C cp ci lvl prot D n K fs r.1 r.2.1 r.2.2)=go P C cp ci lvl prot D n K c e h (.sw::fs):=fun c e h=>by
    unfold go
    cases exec P C cp ci lvl prot D n c e h with
    |none=>rfl
    |some r=>rcases r with⟨_|_|_,_,_⟩ <;> rfl
  unfold go
  rw[amO]
  cases aB e.get o with
  |none=>rfl
  | some y=>
    rcases y with x|_|_|_|_|_|_|_|_|_|_ <;> try rfl
    rcases x with _|_|_|_|_|_|_|_|_|_|_|_ <;> try rfl
    rename_i t
    cases t
    · exact hx b (qy D o e) h
    · exact hx a (qy D o e) h
theorem al9{t:Tmp}(hd:(D.getD (2*t+1) (0,[])).1=0):qy D (.tmp t) e=e.drop [t]:=if_pos hd
theorem al8{t:Tmp}(hd:(D.getD (2*t+1) (0,[])).1=1):qy D (.tmp t) e=e:=if_neg (by rw[hd];decide)
theorem al7{x:Value}:qy D (.const x) e=e:=rfl
theorem apf:Sr P C cp ci lvl prot D n K a b e h fs (.v (.bool true))=go P C cp ci lvl prot D n K a e h (.sw::fs):=rfl
theorem ape:Sr P C cp ci lvl prot D n K a b e h fs (.v (.bool false))=go P C cp ci lvl prot D n K b e h (.sw::fs):=rfl
theorem go_region{i:Nat}{ops:List Oper}:go P C cp ci lvl prot D n K (.region i ⟨ops⟩ false) e h fs=kC P C cp ci lvl prot D n K ops ops e h (D.getD (2*i) (0,[])) fs:=by
  unfold go kC
  rw[amP]
  cases ji P C cp ci lvl ops ops e h with
  |none=>rfl
  | some r=>
    simp only[ai,oM,iF]
    cases post lvl prot (D.getD (2*i) (0,[])).2 (r.1.drop (D.getD (2*i) (0,[])).2) r.2 <;> rfl
theorem apE{i:Nat}{ops:List Oper}(hk:(D.getD (2*i) (0,[])).1<1000):go P C cp ci lvl prot D n K (.region i ⟨ops⟩ true) e h fs=qB P C cp ci lvl prot D n K (D.getD (2*i) (0,[])).1 ops ops e h (D.getD (2*i) (0,[])) fs:=by
  unfold go qB
  rw[Ea]
  unfold qm
  rw[if_pos hk]
  cases kK P C cp ci lvl ops (D.getD (2*i) (0,[])).1 ops e h with
  |none=>rfl
  | some r=>
    simp only[ai,oM,iF]
    cases post lvl prot (D.getD (2*i) (0,[])).2 (r.1.drop (D.getD (2*i) (0,[])).2) r.2 <;> rfl
theorem axG{y}:ret P C cp ci lvl prot D n K [] y e h=K y e h:=rfl
theorem gq:ret P C cp ci lvl prot D n K (.seq b::fs) .normal e h=go P C cp ci lvl prot D n K b e h fs:=rfl
theorem axJ:ret P C cp ci lvl prot D n K (.seqr b::fs) .normal e h=go P C cp ci lvl prot D n K b e h fs:=rfl
theorem axL:ret P C cp ci lvl prot D n K (.seqr b::fs) .ret e h=ret P C cp ci lvl prot D n K fs .ret e h:=rfl
theorem axK{i}:ret P C cp ci lvl prot D n K (.seqr b::fs) (.exit i) e h=ret P C cp ci lvl prot D n K fs (.exit i) e h:=rfl
theorem axI:ret P C cp ci lvl prot D n K (.seq b::fs) .ret e h=ret P C cp ci lvl prot D n K fs .ret e h:=rfl
theorem axH{i}:ret P C cp ci lvl prot D n K (.seq b::fs) (.exit i) e h=ret P C cp ci lvl prot D n K fs (.exit i) e h:=rfl
theorem axA{i}:ret P C cp ci lvl prot D n K (.block i::fs) .normal e h=iF P C cp ci lvl prot D n K (D.getD (2*i+1) (0,[])).2 (e.drop (D.getD (2*i+1) (0,[])).2) h fs:=rfl
theorem axM:ret P C cp ci lvl prot D n K (.sw::fs) .normal e h=ret P C cp ci lvl prot D n K fs .normal e (sweep prot e h):=rfl
theorem axO:ret P C cp ci lvl prot D n K (.sw::fs) .ret e h=ret P C cp ci lvl prot D n K fs .ret e h:=rfl
theorem axN{i}:ret P C cp ci lvl prot D n K (.sw::fs) (.exit i) e h=ret P C cp ci lvl prot D n K fs (.exit i) e h:=rfl
theorem axC{i}:ret P C cp ci lvl prot D n K (.block i::fs) .ret e h=ret P C cp ci lvl prot D n K fs .ret e h:=rfl
theorem axB{i j}:ret P C cp ci lvl prot D n K (.block i::fs) (.exit j) e h=if j=i then iF P C cp ci lvl prot D n K (D.getD (2*i+1) (0,[])).2 (e.drop (D.getD (2*i+1) (0,[])).2) h fs else ret P C cp ci lvl prot D n K fs (.exit j) e h:=rfl
theorem axD{k}:ret P C cp ci lvl prot D n K (.loop c k::fs) .normal e h=gl P C cp ci lvl prot D n K c k e h fs:=rfl
theorem axF{k}:ret P C cp ci lvl prot D n K (.loop c k::fs) .ret e h=ret P C cp ci lvl prot D n K fs .ret e h:=rfl
theorem axE{k i}:ret P C cp ci lvl prot D n K (.loop c k::fs) (.exit i) e h=ret P C cp ci lvl prot D n K fs (.exit i) e h:=rfl
theorem axz:ret P C cp ci lvl prot D n K (.bar::fs) .ret e h=ret P C cp ci lvl prot D n K fs .ret e h:=rfl
theorem axy{i}:ret P C cp ci lvl prot D n K (.bar::fs) (.exit i) e h=ret P C cp ci lvl prot D n K fs (.exit i) e h:=rfl
theorem ap0{k ds}:kC P C cp ci lvl prot D n K all [] e h (k,ds) fs=iF P C cp ci lvl prot D n K ds (e.drop ds) h fs:=rfl
theorem apY{d op ty pos after}:kC P C cp ci lvl prot D n K all (⟨d,op,ty,pos,after,none⟩::os) e h dr fs=
  (dw P C cp ci lvl e h d op).bind (KW P C cp ci lvl prot D n K all os d e dr fs):=by
  unfold kC
  rw[agd]
  cases dw P C cp ci lvl e h d op <;> rfl
theorem apm{d y}:KW P C cp ci lvl prot D n K all os d e dr fs (y,h)=kC P C cp ci lvl prot D n K all os (dX e d y) h dr fs:=rfl
theorem apZ{d op ty pos after g}:kC P C cp ci lvl prot D n K all (⟨d,op,ty,pos,after,some g⟩::os) e h dr fs=
  (o7 all e.get ⟨d,op,ty,pos,after,some g⟩).bind (KY P C cp ci lvl prot D n K (dw P C cp ci lvl e h d op) all os d e h dr fs):=by
  unfold kC
  rw[age]
  cases o7 all e.get ⟨d,op,ty,pos,after,some g⟩with
  |none=>rfl
  | some wd=>
    cases wd with
    |false=>rfl
    | true=>
      simp only[ai,adS,KY,if_true]
      cases dw P C cp ci lvl e h d op <;> rfl
theorem aqj{r d}:KY P C cp ci lvl prot D n K r all os d e h dr fs true=r.bind (KW P C cp ci lvl prot D n K all os d e dr fs):=rfl
theorem aqi{r d}:KY P C cp ci lvl prot D n K r all os d e h dr fs false=kC P C cp ci lvl prot D n K all os (dX e d (.v undef)) h dr fs:=rfl
theorem apX:qB P C cp ci lvl prot D n K 0 all os e h dr fs=kC P C cp ci lvl prot D n K all os e h dr fs:=by
  unfold qB kC;rw[af8]
theorem apV{k k' ds}:qB P C cp ci lvl prot D n K (k+1) all [] e h (k',ds) fs=iF P C cp ci lvl prot D n K ds (e.drop ds) h fs:=rfl
theorem apT{k d op ty pos after}:qB P C cp ci lvl prot D n K (k+1) all (⟨d,op,ty,pos,after,none⟩::os) e h dr fs=
  (qo lvl (d.getD 0) h (bZ P C cp e.get h.get op)).bind (KX P C cp ci lvl prot D n K k all os d e dr fs):=by
  unfold qB
  rw[af6]
  cases qo lvl (d.getD 0) h (bZ P C cp e.get h.get op) <;> rfl
theorem apl{k d y}:KX P C cp ci lvl prot D n K k all os d e dr fs (y,h)=qB P C cp ci lvl prot D n K k all os (dX e d y) h dr fs:=rfl
theorem apU{k d op ty pos after g}:qB P C cp ci lvl prot D n K (k+1) all (⟨d,op,ty,pos,after,some g⟩::os) e h dr fs=
  (o7 all e.get ⟨d,op,ty,pos,after,some g⟩).bind (KZ P C cp ci lvl prot D n K k (qo lvl (d.getD 0) h (bZ P C cp e.get h.get op)) all os d e h dr fs):=by
  unfold qB
  rw[af7]
  cases o7 all e.get ⟨d,op,ty,pos,after,some g⟩with
  |none=>rfl
  | some wd=>
    cases wd with
    |false=>rfl
    | true=>
      simp only[ai,adS,KZ,if_true]
      cases qo lvl (d.getD 0) h (bZ P C cp e.get h.get op) <;> rfl
theorem aqh{k r d}:KZ P C cp ci lvl prot D n K k r all os d e h dr fs true=r.bind (KX P C cp ci lvl prot D n K k all os d e dr fs):=rfl
theorem aqg{k r d}:KZ P C cp ci lvl prot D n K k r all os d e h dr fs false=qB P C cp ci lvl prot D n K k all os (dX e d (.v undef)) h dr fs:=rfl
theorem ap2:iF P C cp ci lvl prot D n K [] e h fs=ret P C cp ci lvl prot D n K fs .normal e h:=rfl
theorem ap1{k ks}(hk:k<1000000):iF P C cp ci lvl prot D n K (k::ks) e h fs=iF P C cp ci lvl prot D n K ks e h fs:=by
  simp only[iF,post,if_pos hk]
def Eo(P:Program)(C:bG)(cp:aC)(ci:bz)(lvl:Nat)(prot:List Id)(D:List (Nat×List Nat))(n:Nat)(K:KK)(k:Nat)(ks:List Nat)(e:Env)(h:Heap)(fs:List Fr):AV→Option AV
  | .v (.slice none 0 0)=>(h.new (lvl,k%1000000,77) (.sl true true (k / 1000000) 0 [])).bind λh'=>iF P C cp ci lvl prot D n K ks (e.set (k%1000000) (.own (lvl,k%1000000,77) 0 0 0)) h' fs
  |_=>iF P C cp ci lvl prot D n K ks e h fs
theorem ap3{k ks}(hk:1000000≤k)(hk2:k<1000000000):iF P C cp ci lvl prot D n K (k::ks) e h fs=(e.get (k%1000000)).bind (Eo P C cp ci lvl prot D n K k ks e h fs):=by
  simp only[iF,post,if_neg (show ¬ k<1000000 by omega),if_pos hk2]
  cases e.get (k%1000000)with
  |none=>rfl
  | some x=>
    rw[ai]
    unfold Eo
    split
    · rename_i he
      injection he with he
      subst he
      cases h.new (lvl,k%1000000,77) (.sl true true (k / 1000000) 0 []) <;> rfl
    · rename_i y hne he
      injection he with he
      subst he
      split
      · exact(hne rfl).elim
      · rfl
    · rename_i he
      cases he
theorem apP{k ks id o m x}:Eo P C cp ci lvl prot D n K k ks e h fs (.own id o m x)=iF P C cp ci lvl prot D n K ks e h fs:=rfl
theorem apN{k ks m xs}:Eo P C cp ci lvl prot D n K k ks e h fs (.arr m xs)=iF P C cp ci lvl prot D n K ks e h fs:=rfl
theorem apO{k ks}:Eo P C cp ci lvl prot D n K k ks e h fs (.v (.slice none 0 0))=(h.new (lvl,k%1000000,77) (.sl true true (k / 1000000) 0 [])).bind λh'=>iF P C cp ci lvl prot D n K ks (e.set (k%1000000) (.own (lvl,k%1000000,77) 0 0 0)) h' fs:=rfl
theorem ap7{k ks}(hk:2000000000≤k)(hk2:k<3000000000):iF P C cp ci lvl prot D n K (k::ks) e h fs=iF P C cp ci lvl prot D n K ks e (sweep prot e h) fs:=by
  simp only[iF,post,if_neg (show ¬ k<1000000 by omega),if_neg (show ¬ k<1000000000 by omega),if_neg (show ¬ 4000000000<=k by omega),if_neg (show ¬ 3000000000<=k by omega),if_pos hk]
def aal(P:Program)(C:bG)(cp:aC)(ci:bz)(lvl:Nat)(prot:List Id)(D:List (Nat×List Nat))(n:Nat)(K:KK)(ks:List Nat)(fs:List Fr)(r:Env×Heap):Option AV:=iF P C cp ci lvl prot D n K ks r.1 r.2 fs
theorem aqc{ks}:aal P C cp ci lvl prot D n K ks fs (e,h)=iF P C cp ci lvl prot D n K ks e h fs:=rfl
theorem ap6{k ks}(hk:3000000000≤k)(hk2:k<4000000000):iF P C cp ci lvl prot D n K (k::ks) e h fs=(shrink prot (k%1000000) e h).bind (aal P C cp ci lvl prot D n K ks fs):=by
  simp only[iF,post,if_neg (show ¬ k<1000000 by omega),if_neg (show ¬ k<1000000000 by omega),if_neg (show ¬ 4000000000<=k by omega),if_pos hk]
  cases shrink prot (k%1000000) e h <;> rfl
theorem ap4{k ks}(hk:4000000000≤k):iF P C cp ci lvl prot D n K (k::ks) e h fs=(BU lvl (k%1000000) (k / 1000000%1000) (k / 1000000000 - 4) e h).bind fun h'=>iF P C cp ci lvl prot D n K ks e h' fs:=by
  simp only[iF,post,if_neg (show ¬ k<1000000 by omega),if_neg (show ¬ k<1000000000 by omega),if_pos hk]
  cases BU lvl (k%1000000) (k / 1000000%1000) (k / 1000000000 - 4) e h <;> rfl
theorem ap5{k ks}(hk:1000000000≤k)(hk2:k<2000000000):iF P C cp ci lvl prot D n K (k::ks) e h fs=(e.get (k%1000000)).bind fun x=>(aG h.get 4 x).bind fun y=>
   iF P C cp ci lvl prot D n K ks (e.set (k%1000000) y) (dV h (aW h.get 4 x)) fs:=by
  simp only[iF,post,if_neg (show ¬ k<1000000 by omega),if_neg (show ¬ k<1000000000 by omega),if_neg (show ¬ 4000000000<=k by omega),if_neg (show ¬ 3000000000<=k by omega),if_neg (show ¬ 2000000000<=k by omega)]
  cases e.get (k%1000000)with
  |none=>rfl
  | some x=>
    simp only[ai]
    cases aG h.get 4 x <;> rfl
end
def J{β:Type}(m:Option AV)(s:Option β)(enc:β->AV):Prop:= ∀ b,s=some b->m=some (enc b)
def chk{β:Type}(c:Prop)[Decidable c](s:Option β):Option β:=if c then s else none
def at?{α:Type}(l:List α)(i:Int):Option α:=if 0<=i then l[i.toNat]? else none
def aT{σ β:Type}(body:(σ→Option β)→σ→Option β):Nat→σ→Option β
  |0,_=>none
  |n+1,s=>body (aT body n) s
theorem at?_some{α:Type}{l:List α}{i:Int}{x:α}(h:at? l i=some x):0≤i∧i<l.length∧l[i.toNat]? =some x:=by
  unfold at? at h
  split at h
  · rename_i h0
    have:=(List.getElem?_eq_some_iff.1 h).1
    exact⟨h0,by omega,h⟩
  · cases h
section
variable {β:Type} {m m':Option AV} {s s1 s2:Option β} {enc:β->AV}
theorem J.none:J m (none:Option β) enc:=λb h=>by cases h
theorem J.some{b:β}(h:m=some (enc b)):J m (some b) enc:=λb' hb=>by injection hb with hb;subst hb;exact h
theorem J.eq(h:m=m')(j:J m' s enc):J m s enc:=by subst h;exact j
theorem J.ite{c:Prop}[Decidable c](a:c→J m s1 enc)(b: ¬ c→J m s2 enc):J m (if c then s1 else s2) enc:=by
  by_cases h:c
  · rw[if_pos h];exact a h
  · rw[if_neg h];exact b h
theorem J.chk{c:Prop}[Decidable c](a:c→J m s enc):J m (chk c s) enc:=by
  unfold Go.Av.chk
  exact J.ite a λ_=>J.none
theorem J.bind{γ:Type}{f:Option γ}{k:γ→Option β}(a: ∀ r,f=Option.some r→J m (k r) enc):J m (f.bind k) enc:=fun b h=>by
  cases f with
  |none=>cases h
  |some r=>exact a r rfl b h
theorem J.at{γ:Type}{l:List γ}{i:Int}{k:γ→Option β}(a: ∀ r,0≤i→i<l.length→l[i.toNat]? =Option.some r→J m (k r) enc):J m ((at? l i).bind k) enc:=
  J.bind λr hr=>by obtain⟨h0,h1,h2⟩:=at?_some hr;exact a r h0 h1 h2
variable {P:Program} {C:bG} {cp:aC} {ci:bz} {lvl:Nat} {prot:List Id} {D:List (Nat×List Nat)} {n:Nat} {K:KK}
variable {e:Env} {h:Heap} {fs:List Fr} {a b c:Code}
theorem J.loop{σ:Type}(st:σ→Env×Heap)(body:(σ→Option β)→σ→Option β){s0:σ}(he:e=(st s0).1)(hh:sweep prot e h=(st s0).2)
    (hb: ∀ (next:σ→Option β) (k:Nat),(∀ s e h,e=(st s).1→sweep prot e h=(st s).2→J (gl P C cp ci lvl prot D n K c k e h fs) (next s) enc)→
      ∀ s,J (go P C cp ci lvl prot D n K c (st s).1 (st s).2 (.loop c k::fs)) (body next s) enc) {m:Nat}:
    J (gl P C cp ci lvl prot D n K c m e h fs) (aT body m s0) enc:=by
  induction m generalizing s0 e h with
  |zero=>exact J.none
  | succ m ih=>
    have:=hb (aT body m) m (λs e h he hh=>ih he hh) s0
    rw[← he,← hh]at this
    refine J.eq ?_ this
    unfold gl
    simp only[tK,go]
    cases exec P C cp ci lvl prot D n c e (sweep prot e h)with
    |none=>rfl
    |some r=>rcases r with⟨_|_|_,_,_⟩ <;> rfl
theorem J.next{σ:Type}{st:σ→Env×Heap}{next:σ→Option β}{k:Nat}(hn: ∀ s e h,e=(st s).1→sweep prot e h=(st s).2→J (gl P C cp ci lvl prot D n K c k e h fs) (next s) enc){s:σ}
    (he:e=(st s).1) (hh:sweep prot e h=(st s).2):J (gl P C cp ci lvl prot D n K c k e h fs) (next s) enc:=hn s e h he hh
theorem J.Ls{τ:Type}(st:τ→Env×Heap)(fj:τ→Option β)(h1: ∀ t,J (go P C cp ci lvl prot D n K b (st t).1 (st t).2 fs) (fj t) enc)
    (h2:(∀ t,J (ret P C cp ci lvl prot D n K (.bar:: .seq b::fs) .normal (st t).1 (st t).2) (fj t) enc)->J (go P C cp ci lvl prot D n K a e h (.bar:: .seq b::fs)) s enc):
    J (go P C cp ci lvl prot D n K (.seq a b) e h fs) s enc:=by
  exact J.eq gG (J.eq rfl (h2 λt=>h1 t))
theorem J.S9{τ:Type}{st:τ→Env×Heap}{fj:τ→Option β}(hj: ∀ t,J (ret P C cp ci lvl prot D n K fs .normal (st t).1 (st t).2) (fj t) enc){t:τ}(he:e=(st t).1)(hh:h=(st t).2):
    J (ret P C cp ci lvl prot D n K fs .normal e h) (fj t) enc:=by subst he hh;exact hj t
def fin(P:Program)(rs:List ResultVar)(ts:List TypeId):KK:=fun y e h=>match y with
  | .exit _=>none
  |_=>wW P ⟨.skip,rs,ts⟩ e h
theorem am6{rs ts}:fin P rs ts .ret e h=wW P ⟨.skip,rs,ts⟩ e h:=rfl
theorem am5{rs ts}:fin P rs ts .normal e h=wW P ⟨.skip,rs,ts⟩ e h:=rfl
theorem qg(hm:P.follows .mixedOrders=true)(hcp:aK P cp)(hci:eH P ci){f:FuncId}{i:aU}(hi:aN P f D=some i){args:List AV}
    (j:J (go P C cp ci 0 [] D n (fin P i.results i.types) i.code (bW 0 args) [] []) s enc) {b:β} (hb:s=some b):bH P f args (enc b):=by
  refine bM hm (C:=C) hcp hci (n:=n) hi ?_
  have:=j b hb
  unfold go at this
  unfold bI
  cases hx:exec P C cp ci 0 [] D n i.code (bW 0 args) []with
  |none=>rw[hx]at this;cases this
  | some r=>
    rw[hx]at this
    rcases r with⟨_|_|_,_,_⟩
    · exact this
    · cases this
    · exact this
end
end Go.Av
