/- From a contract of a law's function to the given form of its statement; arguments as the interpreter's data. Conditions: those that each names. -/
import Derived.Test.YteafmomjfnlkgaaGreatMo
import Derived.ProofKit
import Derived.SizedLaws
set_option linter.unusedVariables false
namespace Go.Av
open Go.ChangeShapes Go.WideShapes Go.ChangeAt Go.RowKit
def AllF(W:World):Nat->Prop:=λb=>b<W.heap.size
theorem law_calls{P:Program}{f:FuncId}{avs:List AV}{us:List Value}{W:World}(h:PureOK P f avs (.v (.bool true)))(hl:avs.length=us.length)
    (hx: ∀ (i:Nat) x u,avs[i]? =some x->us[i]? =some u->VC W.heap (AllF W) x u):
    Calls P f us.toArray W λe W'=>e= .returned (.bool true)/\Below W.heap.size W W':=by
  refine(h.2 W (AllF W) us (λb hb=>hb) hl hx).mono λe W' ⟨u,F',bs,he,hg,_,_,_,ht,_⟩=> ?_
  have hu:u= .bool true:=by
    cases ht with
    | base hr=>cases hr with
      |v=>rfl
  subst hu
  exact⟨he,⟨hg.os,hg.tape,hg.output,hg.size,λk hk=>hg.block k hk (by simp)⟩⟩
section
variable {H:Type} {enc:TypeId×Value->H} {P:Program}
theorem trodAll_below(hl:laidOutB P=true){W W':World}(hb:Below W.heap.size W W'): ∀ {ts:List TypeId} (hts: ∀ t ∈ ts,P.readableRec t=true∧t<P.types.size) {vs:List Value} {ds:List (DataW H)} {ps:List MemPlace},
    DataW.TrodAll enc P W 0 (λ_=>true) true ts vs ds ps->(∀ x ∈ ps,x.block<W.heap.size)->DataW.TrodAll enc P W' 0 (λb=>decide (b<W.heap.size)) true ts vs ds ps
  | [],_,vs,ds,ps,h,_=>by
    cases vs <;> cases ds <;> first|exact h|exact h.elim
  | t ::ts,hts,vs,ds,ps,h,hlt=>by
    cases vs with
    |nil=>cases ds <;> exact h.elim
    | cons v vs=>
      cases ds with
      |nil=>exact h.elim
      | cons d ds=>
        obtain⟨p,q,h1,h2,rfl⟩:=h
        have ht:=hts t (by simp)
        exact⟨p,q,Below.trod hl ht.1 ht.2 h1 hb (λx hx=>hlt x (by simp[hx])),trodAll_below hl hb (λt h=>hts t (by simp[h])) h2 (λx hx=>hlt x (by simp[hx])),rfl⟩
theorem law_lifted{C:Checked}{os:Os}(started:os.Started){f:FuncId}{fn:Func}{s:ChangeSpec}{apart fresh handsOn:Bool}{conds:List PathCond}{tb:TypeId}(own:ownKnob C.prog.godebug=none)(noInit:C.prog.inits.idxOf? f=none)
    (hfn:C.prog.funcs[f]? =some fn) (laid:laidOutB C.prog=true) (hts: ∀ t ∈ fn.params.toList,C.prog.readableRec t=true/\t<C.prog.types.size) (hv:s.vars=[])
    (hrt:fn.resultTypes= #[tb]) (htb:C.prog.underlying tb=some .bool)
    (hs: ∀ ds:List (DataW H),ds.length=fn.params.size->s.fn H ds={results:=[.lit (.bool true)],args:=ds})
    (witness: ∃ (w:World) (tape:Tape) (i:Input),w.os=os∧(w.forCall tape i).Shaped C.prog∧i.vars=[]∧Input.okWide C.prog (w.forCall tape i) .any w.heap.size f i∧
      s.pre6 enc C.prog fn conds apart (w.forCall tape i).memory i.args/\Assume.holds {} C.prog (lone (Frame.enter C.prog f i.args .normal) [] (w.forCall tape i)))
    (main: ∀ (W:World) (base:Nat) (args:Array Value) (ds:List (DataW H)) (p:List MemPlace),
      (∀ (j:Nat) t v,fn.params[j]? =some t->args[j]? =some v->Value.okWide C.prog W .any base t v)->
      DataW.TrodAll enc C.prog W 0 (λ_=>true) true fn.params.toList args.toList ds p->(∀ x ∈ p,x.block<W.heap.size)->
      (DataW.weightsEach C.prog fn.params.toList ds).all (· <=reachBytes)=true->
      Calls C.prog f args W λe W'=>e= .returned (.bool true)/\Below W.heap.size W W'):
    ReturnsInHanded {} C os f .any (s.pre6 enc C.prog fn conds apart) (s.post enc C.prog fn apart fresh handsOn false):=by
  refine returnsInHanded_of_change_sized (C:=C) own started noInit hfn witness ?_
  intro W base args ds gs before hval hW _ hsz _
  have hW':=hW
  obtain⟨p,q,hA,hV,rfl,_,_⟩:=hW
  rw[hv]at hV
  obtain⟨rfl,rfl⟩:=trodVars_none hV
  have hlt: ∀ x ∈ p,x.block<W.heap.size:=λx hx=>by simpa using hW'.lt x (by simp[hx])
  have hpl:s.plain.varTypes C.prog=[]:=by simp[ChangeSpec.plain,DataSpec.varTypes,hv]
  rw[hpl,List.append_nil,List.append_nil]at hsz
  refine(main W base args ds p hval hA hlt hsz).mono λe W' ⟨he,hb⟩=> ?_
  have hlen:ds.length=fn.params.size:=by
    have : ∀ {ts:List TypeId} {vs:List Value} {ds:List (DataW H)} {ps:List MemPlace},DataW.TrodAll enc C.prog W 0 (fun _=>true) true ts vs ds ps→ds.length=ts.length:=by
      intro ts
      induction ts with
      |nil=>intro vs ds ps h;cases vs <;> cases ds <;> first|rfl|exact h.elim
      | cons t ts ih=>
        intro vs ds ps h
        cases vs with
        |nil=>cases ds <;> exact h.elim
        | cons v vs=>cases ds with
          |nil=>exact h.elim
          |cons d ds=>obtain⟨_,_,_,h2,_⟩:=h;simp[ih h2]
    simpa using this hA
  have hsp:=hs ds hlen
  refine⟨_,he,ds,[],p++[],[],p,[],hW',?_,?_,?_,hb.frame _,λh=>by cases h⟩
  · rw[List.append_nil,hsp,hrt]
    exact trodAll_mk1 ⟨1,by simp[DataW.trod,htb,Value.cells]⟩
  · rw[List.append_nil,hsp]
    exact trodAll_below laid hb hts hA hlt
  · rw[hv,List.append_nil,hsp];rfl
theorem cells_row{W:World}{b off len:Nat}{us:List Value}(h0:0<len)(hl:us.length=len)(hcell: ∀ i,i<len→W.cell? ⟨b,off+i,none⟩=us[i]?):Row W.heap b off us∧b<W.heap.size:=by
  have hc0:=hcell 0 h0
  rw[List.getElem?_eq_getElem (by omega)]at hc0
  simp only[World.cell?]at hc0
  cases hb:W.heap[b]? with
  |none=>rw[hb]at hc0;cases hc0
  | some o=>
    refine⟨?_,(Array.getElem?_eq_some_iff.1 hb).1⟩
    cases o with
    | cells cur e fz=>
      refine⟨cur,e,fz,hb,λi u hu=> ?_⟩
      have hi:i<us.length:=(List.getElem?_eq_some_iff.1 hu).1
      have:=hcell i (by omega)
      simp only[World.cell?,hb]at this
      simp at this
      rw[this];exact hu
    |_=>rw[hb]at hc0;cases hc0
end
end Go.Av
