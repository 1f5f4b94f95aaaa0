/- Calls; a region's operations in their order. Conditions: none. -/
import Derived.Test.YtiagecndhhinfaaGreatSe4
import Derived.RangeFuncLeaves
import Derived.RangeFuncRecord
set_option linter.unusedVariables false
namespace Go.Av
def bH(P:Program)(f:FuncId)(args:List AV)(r:AV):Prop:=
  (∃ fn,P.funcs[f]? =some fn/\(fn.name== "runtime.NumGoroutine")=false/\fn.body.isNone=false)/\
  ∀ (w:World) (F:Nat→Prop) (us:List Value),(∀ b,F b→b<w.heap.size)→args.length=us.length→(∀ (i:Nat) x u,args[i]? =some x→us[i]? =some u→VC w.heap F x u)→
    Calls P f us.toArray w fun e w'=> ∃ u F' bs,e= .returned u∧w.grownBy w' none∧(∀ b,F b→F' b)∧(∀ b,F' b→b<w'.heap.size)∧(∀ b,F' b→b<w.heap.size→F b)∧
      TR w'.heap (VC w'.heap F') (VC w'.heap F') r u bs/\bs.Nodup/\ ∀ b ∈ bs,w.heap.size<=b/\b<w'.heap.size/\ ¬ F' b
def aef(P:Program)(f:FuncId)(args:List AV)(h:Heap)(r:AV)(h':Heap):Prop:=
  (∃ fn,P.funcs[f]? =some fn/\(fn.name== "runtime.NumGoroutine")=false/\fn.body.isNone=false)/\
  ∀ (w:World) (F:Nat→Prop) (M:Id→Option Nat) (us:List Value),aQ w.heap F h M→args.length=us.length→(∀ (i:Nat) x u,args[i]? =some x→us[i]? =some u→VR w.heap F h M x u)→
    Calls P f us.toArray w λe w'=> ∃ u F' M',e= .returned u/\aQ w'.heap F' h' M'/\bn All w F h M w' F' h' M'/\VR w'.heap F' h' M' r u
def ad9(P:Program)(f:FuncId)(args:List AV)(r:AV):Prop:=
  ∀ (w:World) (F:Nat→Prop) (h:Heap) (M:Id→Option Nat) (us:List Value),aQ w.heap F h M→args.length=us.length→(∀ (i:Nat) x u,args[i]? =some x→us[i]? =some u→VR w.heap F h M x u)→
    ∃ u,(callFunc f us.toArray).run P w= .ok (.value u) w/\VR w.heap F h M r u
def Oc(P:Program)(f:FuncId)(args:List AV)(h:Heap)(r:AV)(h':Heap):Prop:=aef P f args h r h'∨(h'=h/\ad9 P f args r)
structure uJ (keep:Nat→Prop) (w1:World) (F1:Nat→Prop) (w2:World) (F2:Nat→Prop):Prop where
  os:w2.os=w1.os
  tape:w2.tape=w1.tape
  output:w2.output=w1.output
  size:w1.heap.size<=w2.heap.size
  same: ∀ b,b<w1.heap.size->keep b->w2.heap[b]? =w1.heap[b]?
  fsub: ∀ b,F1 b->F2 b
  fold: ∀ b,F2 b->b<w1.heap.size->keep b->F1 b
  fb: ∀ b,F2 b->b<w2.heap.size
def Vg(P:Program)(k:FuncId)(xs:List AV)(ys:List AV):Prop:=
  (∃ fn,P.funcs[k]? =some fn/\(fn.name== "runtime.NumGoroutine")=false/\fn.body.isNone=false)/\
  ∀ (w :World) (F:Nat→Prop) (us:List Value) (l:Nat) (J:Nat→World→(Nat→Prop)→(Nat→Prop)→Prop) (O:Nat→Prop),
    (∀ b,F b->b<w.heap.size)->xs.length=us.length->(∀ (i:Nat) x u,xs[i]? =some x->us[i]? =some u->VC w.heap F x u)->
    (∀ i w1 F1 O1 w2 F2,J i w1 F1 O1->uJ (λb=>b<w.heap.size∨F1 b∨O1 b) w1 F1 w2 F2->J i w2 F2 O1)->
    (∀ (i:Nat) (zs:List AV) (vs:List Value) w1 F1 O1,ys[i]? =some (.tuple zs)→J i w1 F1 O1→(∀ b,F1 b→b<w1.heap.size)→w.heap.size≤w1.heap.size→zs.length=vs.length→
      (∀ (j:Nat) x u,zs[j]? =some x->vs[j]? =some u->VC w1.heap F1 x u)->
      ∃ fn tmps assign body,(Instr.yield l vs.toArray).run P w1= .ok (.round l fn tmps assign body) w1∧RoundIn Fence.wide 0 P l fn tmps assign body w1 fun e w2=>e= .returned (.bool true)∧
        ∃ F2 O2,J (i+1) w2 F2 O2/\uJ (λb=> ¬ O1 b) w1 F1 w2 F2/\(∀ b,O2 b->b<w1.heap.size->O1 b)/\ ∀ b,O2 b->b<w2.heap.size/\ ¬ F2 b)->
    J 0 w F O->(∀ b,O b->b<w.heap.size/\ ¬ F b)->
    Calls P k (.func (.yield l) #[] #[]::us).toArray w λe w'=> ∃ v F' O',e= .returned v/\J ys.length w' F' O'
section
variable {P:Program} {w:World} {F:Nat->Prop} {h:Heap} {M:Id->Option Nat}
theorem MW{c:Call}{ty:TypeId}{a:Act}{f:Operand}{k:FuncId}{us vs:List Value}{args:List Operand}(hf:a.eval f= .func (.func k) ⟨us⟩ ⟨vs⟩)
    {fn:Func} (h1:P.funcs[k]? =some fn) (h2:(fn.name== "runtime.NumGoroutine")=false) (h3:fn.body.isNone=false) {ts:Array TypeId}:
    (do let d ← resolve a.eval {callee:= .value f,args:=⟨args⟩,argTypes:=ts} ty;invoke d.target d.args:Sem Next).run P w= .ok (.enter k (us++args.map a.eval++vs).toArray) w:=by
  have h2': ¬ fn.name= "runtime.NumGoroutine" :=by simpa using h2
  have h3': ¬ fn.body=none:=by intro hh;rw[hh]at h3;cases h3
  simp[resolve,hf,Deferred.ofValue,invoke,callFunc,h1,h2',h3']
theorem axX{c:Call}{ty:TypeId}{a:Act}{f:Operand}{k:FuncId}{us vs:List Value}{args:List Operand}(hf:a.eval f= .func (.func k) ⟨us⟩ ⟨vs⟩){ts:Array TypeId}:
    (do let d ← resolve a.eval {callee:= .value f,args:=⟨args⟩,argTypes:=ts} ty;invoke d.target d.args:Sem Next).run P w=(callFunc k (us++args.map a.eval++vs).toArray).run P w:=by
  simp[resolve,hf,Deferred.ofValue,invoke]
theorem VC.uw{H:Array Obj}{F F':Nat→Prop}: ∀ d {x:AV} {u:Value},VC H F' x u→alias d x=false→VC H F x u:=by
  intro d
  induction d with
  | zero=>
    intro x u hv ha
    cases hv with
    |v=>exact .v
    |gB=>exact .gB
    | @arr n xs b o c us hc hF hr hl hx=>
      simp[alias]at ha
    | @fn f first cap us vs h1 h2 h3 h4=>
      cases first with
      |cons=>simp[alias]at ha
      | nil=>cases cap with
        |cons=>simp[alias]at ha
        |nil=>exact .fn h1 (λi x u h=>by simp at h) h3 (λi x u h=>by simp at h)
    |_=>simp[alias]at ha
  | succ d ih=>
    intro x u hv ha
    cases hv with
    |v=>exact .v
    |gB=>exact .gB
    | @arr n xs b o c us hc hF hr hl hx=>
      simp[alias]at ha
    | @fn f first cap us vs h1 h2 h3 h4=>
      cases first with
      |cons=>simp[alias]at ha
      | nil=>cases cap with
        |cons=>simp[alias]at ha
        |nil=>exact .fn h1 (λi x u h=>by simp at h) h3 (λi x u h=>by simp at h)
    | @agg xs us hl hx=>
      simp only[alias,List.any_eq_false]at ha
      exact .agg hl λi x u a b=>ih (hx i x u a b) (by simpa using ha x (List.mem_of_getElem? a))
    | @tuple xs us hl hx=>
      simp only[alias,List.any_eq_false]at ha
      exact .tuple hl λi x u a b=>ih (hx i x u a b) (by simpa using ha x (List.mem_of_getElem? a))
    |ay=>simp[alias]at ha
mutual
theorem TR.uw{H:Array Obj}{F F':Nat→Prop}: ∀ d {x:AV} {u:Value} {bs:List Nat},TR H (VC H F') (VC H F') x u bs→alias d x=false→TR H (VC H F) (VC H F) x u bs
  |d,_,_,_,.base hr,ha=> .base (hr.uw d ha)
  |d,_,_,_,.nil,ha=> .nil
  |0,_,_,_,.fresh hb hc hs hl hx,ha=>by simp[alias]at ha
  | d +1,_,_,_,.fresh hb hc hs hl hx,ha=> .fresh hb hc hs hl fun i x hxi=>(hx i x hxi).imp fun u hu=>⟨hu.1,hu.2.uw d (by
      simp only[alias,List.any_eq_false]at ha;simpa using ha x (List.mem_of_getElem? hxi))⟩
  |0,_,_,_,.open_ hb hc hs hl hx,ha=>by simp[alias]at ha
  |d+1,_,_,_,.open_ hb hc hs hl hx,ha=>by simp[alias]at ha
  |0,_,_,_,.newbx hb hx,ha=>by simp[alias]at ha
  |d+1,_,_,_,.newbx hb hx,ha=> .newbx hb (dO.uw d hx (by simpa only[alias]using ha))
  |0,_,_,_,.agg hx,ha=>by simp[alias]at ha
  |d+1,_,_,_,.agg hx,ha=> .agg (dO.uw d hx (by simpa only[alias]using ha))
  |0,_,_,_,.tuple hx,ha=>by simp[alias]at ha
  |d+1,_,_,_,.tuple hx,ha=> .tuple (dO.uw d hx (by simpa only[alias]using ha))
theorem dO.uw{H:Array Obj}{F F':Nat→Prop}: ∀ d {xs:List AV} {us:List Value} {bs:List Nat},dO H (VC H F') (VC H F') xs us bs→xs.any (alias d)=false→dO H (VC H F) (VC H F) xs us bs
  |d,_,_,_,.nil,ha=> .nil
  | d,_,_,_,.cons h1 h2,ha=>by
    simp only[List.any_cons,Bool.or_eq_false_iff]at ha
    exact .cons (TR.uw d h1 ha.1) (dO.uw d h2 ha.2)
end
theorem VC.uy{H:Array Obj}{F F':Nat→Prop}: ∀ d {x:AV} {u:Value},VC H F' x u→iG d x=false→VC H F x u:=by
  intro d
  induction d with
  | zero=>
    intro x u hv ha
    cases hv with
    |v=>exact .v
    |gB=>exact .gB
    | @arr n xs b o c us hc hF hr hl hx=>
      cases n with
      | zero=>cases xs with
        |nil=>exact .gB
        |cons=>simp[iG]at ha
      |succ n=>simp[iG]at ha
    | @fn f first cap us vs h1 h2 h3 h4=>
      cases first with
      |cons=>simp[iG]at ha
      | nil=>cases cap with
        |cons=>simp[iG]at ha
        |nil=>exact .fn h1 (λi x u h=>by simp at h) h3 (λi x u h=>by simp at h)
    |_=>simp[iG]at ha
  | succ d ih=>
    intro x u hv ha
    cases hv with
    |v=>exact .v
    |gB=>exact .gB
    | @arr n xs b o c us hc hF hr hl hx=>
      cases n with
      | zero=>cases xs with
        |nil=>exact .gB
        |cons=>simp[iG]at ha
      |succ n=>simp[iG]at ha
    | @fn f first cap us vs h1 h2 h3 h4=>
      cases first with
      |cons=>simp[iG]at ha
      | nil=>cases cap with
        |cons=>simp[iG]at ha
        |nil=>exact .fn h1 (λi x u h=>by simp at h) h3 (λi x u h=>by simp at h)
    | @agg xs us hl hx=>
      simp only[iG,List.any_eq_false]at ha
      exact .agg hl λi x u a b=>ih (hx i x u a b) (by simpa using ha x (List.mem_of_getElem? a))
    | @tuple xs us hl hx=>
      simp only[iG,List.any_eq_false]at ha
      exact .tuple hl λi x u a b=>ih (hx i x u a b) (by simpa using ha x (List.mem_of_getElem? a))
    |ay=>simp[iG]at ha
mutual
theorem TR.uy{H:Array Obj}{F F':Nat→Prop}: ∀ d {x:AV} {u:Value} {bs:List Nat},TR H (VC H F') (VC H F') x u bs→iG d x=false→TR H (VC H F) (VC H F) x u bs
  |d,_,_,_,.base hr,ha=> .base (hr.uy d ha)
  |d,_,_,_,.nil,ha=> .nil
  |0,_,_,_,.fresh hb hc hs hl hx,ha=>by simp[iG]at ha
  | d +1,_,_,_,.fresh hb hc hs hl hx,ha=> .fresh hb hc hs hl fun i x hxi=>(hx i x hxi).imp fun u hu=>⟨hu.1,hu.2.uy d (by
      simp only[iG,List.any_eq_false]at ha;simpa using ha x (List.mem_of_getElem? hxi))⟩
  |0,_,_,_,.open_ hb hc hs hl hx,ha=>by simp[iG]at ha
  |d+1,_,_,_,.open_ hb hc hs hl hx,ha=>by simp[iG]at ha
  |0,_,_,_,.newbx hb hx,ha=>by simp[iG]at ha
  |d+1,_,_,_,.newbx hb hx,ha=> .newbx hb (dO.uy d hx (by simpa only[iG]using ha))
  |0,_,_,_,.agg hx,ha=>by simp[iG]at ha
  |d+1,_,_,_,.agg hx,ha=> .agg (dO.uy d hx (by simpa only[iG]using ha))
  |0,_,_,_,.tuple hx,ha=>by simp[iG]at ha
  |d+1,_,_,_,.tuple hx,ha=> .tuple (dO.uy d hx (by simpa only[iG]using ha))
theorem dO.uy{H:Array Obj}{F F':Nat→Prop}: ∀ d {xs:List AV} {us:List Value} {bs:List Nat},dO H (VC H F') (VC H F') xs us bs→xs.any (iG d)=false→dO H (VC H F) (VC H F) xs us bs
  |d,_,_,_,.nil,ha=> .nil
  | d,_,_,_,.cons h1 h2,ha=>by
    simp only[List.any_cons,Bool.or_eq_false_iff]at ha
    exact .cons (TR.uy d h1 ha.1) (dO.uy d h2 ha.2)
end
end
end Go.Av
