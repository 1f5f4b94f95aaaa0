/- Arguments of any make, together of bulk at most 1048576, as the interpreter's data. Conditions: those that each names. -/
import Derived.Test.YtiagecndhhinfaaGreatBr
import Derived.Deep.Slices
import Derived.JoinedCond
set_option linter.unusedVariables false
namespace Go.Av
open Go.ChangeShapes Go.WideShapes Go.ChangeAt Go.RowKit Go.Deep
structure lN (H:Type) where
  bk:DataW H->Nat
  ba:List (DataW H)->Nat
  nil:ba []=0
  cons: ∀ d l,ba (d::l)=bk d+ba l
  sl: ∀ e s,bk (.slice e s)=ba e+ba s+1
  ag: ∀ ps,bk (.agg ps)=ba ps+1
  st: ∀ b,bk (.lit (.string b))=b.length+1
  pos: ∀ d,1<=bk d
theorem lN.mem{H:Type}(M:lN H){d:DataW H}: ∀ {l:List (DataW H)},d ∈ l→M.bk d≤M.ba l
  | x::l,h=>by
    rw[M.cons]
    rcases List.mem_cons.1 h with rfl|h
    · omega
    · have:=M.mem h;omega
theorem lN.len{H:Type}(M:lN H): ∀ l:List (DataW H),l.length≤M.ba l
  |[]=>by simp
  | x::l=>by
    rw[M.cons,List.length_cons]
    have:=M.pos x
    have:=M.len l
    omega
section
variable {H:Type} {M:lN H} {enc:TypeId×Value->H} {P:Program} {W:World}
def VL(W:World)(xs:List AV)(us:List Value):Prop:=xs.length=us.length/\ ∀ (i:Nat) x u,xs[i]? =some x->us[i]? =some u->VC W.heap (qK W) x u
def Is{H:Type}(M:lN H)(enc:TypeId×Value→H)(P:Program)(W:World)(t:TypeId){α:Type}(c:α→List AV)(Q:α→Prop):Prop:=
  ∀ (fuel:Nat) (cs:List Value) (x:DataW H×List MemPlace),DataW.trod enc P W 0 (λ_=>true) true fuel t cs=some x->M.bk x.1<=1048576-> ∃ a:α,VL W (c a) cs/\Q a
theorem VL.one{x:AV}{u:Value}(h:VC W.heap (qK W) x u):VL W [x] [u]:=⟨rfl,fun i y v h1 h2=>by
  match i with
  |0=>simp at h1 h2;subst h1 h2;exact h
  |i+1=>simp at h1⟩
theorem VL.nil:VL W [] []:=⟨rfl,λi y v h1 h2=>by simp at h1⟩
theorem VL.append{xs ys:List AV}{us vs:List Value}(h1:VL W xs us)(h2:VL W ys vs):VL W (xs++ys) (us++vs):=by
  refine⟨by rw[List.length_append,List.length_append,h1.1,h2.1],λi x u hx hu=> ?_⟩
  by_cases hi:i<xs.length
  · rw[List.getElem?_append_left hi]at hx
    rw[List.getElem?_append_left (by rw[← h1.1];exact hi)]at hu
    exact h1.2 i x u hx hu
  · rw[List.getElem?_append_right ae]at hx
    rw[List.getElem?_append_right (by rw[← h1.1];omega),← h1.1]at hu
    exact h2.2 _ x u hx hu
theorem Lr{t:TypeId}{k:IntKind}(ht:P.underlying t=some (.int k)):Is M enc P W t (fun n:Int=>[.v (.int k n)]) (fun n=>(Lit.int k n).wf=true):=fun fuel cs x h _=>by
  obtain⟨m,rfl,rfl,hw⟩:=DataW.trod_int ht h
  exact⟨m,.one .v,hw⟩
theorem aaM{t:TypeId}(ht:P.underlying t=some .bool):Is M enc P W t (fun b:Bool=>[.v (.bool b)]) (fun _=>True):=fun fuel cs x h _=>by
  cases fuel with
  |zero=>cases h
  | succ n=>
    unfold DataW.trod at h
    rw[ht]at h
    match cs,h with
    |[.bool b],h=>exact⟨b,.one .v,trivial⟩
theorem asr{t:TypeId}(ht:P.underlying t=some .string):Is M enc P W t (fun s:ByteArray=>[.v (.string s)]) (fun s=>s.size≤1048576):=fun fuel cs x h hw=>by
  cases fuel with
  |zero=>cases h
  | succ n=>
    unfold DataW.trod at h
    rw[ht]at h
    match cs,h with
    | [.string s],h=>
      simp only[]at h
      split at h
      · injection h with h
        subst h
        simp only[M.st]at hw
        have e:s.data.toList.length=s.size:=by rw[Array.length_toList];rfl
        exact⟨s,.one .v,by omega⟩
      · cases h
theorem Ez{e:TypeId}{α:Type}{c:α→List AV}{Q:α→Prop}(he:Is M enc P W e c Q){w:Nat}(hc:P.cellsOf e=w)(hw: ∀ x,(c x).length=w){a:Addr}{n:Nat}{D:Nat→DataW H}{Pl:Nat→List MemPlace}: ∀ (m:Nat),
    (∀ i,i<m-> ∃ cs',W.cells? 0 (a.add (i*w)) w=some cs'/\DataW.trod enc P W 0 (λ_=>true) true n e cs'=some (D i,Pl i))->(∀ i,i<m->M.bk (D i)<=1048576)->
    ∃ (l:List α) (us:List Value),l.length=m/\us.length=m*w/\VL W (fm c l) us/\(∀ x ∈ l,Q x)/\ ∀ j,j<m*w->W.cell? (a.add j)=us[j]?
  |0,_,_=>⟨[],[],rfl,by simp,.nil,by simp,λj hj=>by omega⟩
  | m + 1, h,hk=>by
    obtain⟨l,us,h1,h2,h3,h4,h5⟩:=Ez he hc hw m (λi hi=>h i ae) (λi hi=>hk i ae)
    obtain⟨cs',hcs,ht⟩:=h m ae
    obtain⟨x,hv,hq⟩:=he _ _ _ ht (hk m ae)
    obtain⟨hb,hl,hcell⟩:=World.cells?_some hcs
    refine⟨l++[x],us++cs',by simp[h1],?_,?_,?_,?_⟩
    · rw[List.length_append,h2,hl,Nat.succ_mul]
    · have:fm c (l++[x])=fm c l++c x:=by simp[fm]
      rw[this]
      exact h3.append hv
    · intro y hy
      rcases List.mem_append.1 hy with hy|hy
      · exact h4 y hy
      · simp at hy;subst hy;exact hq
    · intro j hj
      by_cases hjm:j<m*w
      · rw[List.getElem?_append_left ae];exact h5 j hjm
      · rw [List.getElem?_append_right ae,h2]
        have:=hcell (j - m*w) (by rw[Nat.succ_mul]at hj;omega)
        rw[← this]
        have e: ∀ q r:Nat,(a.add q).add r=a.add (q+r):=fun q r=>by
          by_cases h1:q=0
          · subst h1;simp[Addr.add]
          · by_cases h2:r=0
            · subst h2;simp[Addr.add,h1]
            · simp[Addr.add,h1,h2,Nat.add_assoc]
        rw[e,Nat.add_sub_cancel' ae]
theorem BC{t e:TypeId}{α:Type}{c:α→List AV}{Q:α→Prop}(ht:P.underlying t=some (.slice e))(he:Is M enc P W e c Q){w:Nat}(hc:P.cellsOf e=w)(h0:0<w)(hw: ∀ x,(c x).length=w):
    Is M enc P W t (λl:List α=>[.arr l.length (fm c l)]) (λl=>l.length<=1048576/\ ∀ x ∈ l,Q x):=λfuel cs x h hk=>by
  rcases open_slice ht h with⟨rfl,rfl⟩|⟨a,len,cap,m,n,D,Pl,rfl,_,hlen,_,hm,rfl,hel⟩
  · exact⟨[],.one .gB,by simp,by simp⟩
  · have hm:m=cap:=by simpa using hm
    subst hm
    rw[hc]at hel
    simp only[M.sl]at hk
    have hwt: ∀ i,i<len→M.bk (D i)≤1048576:=fun i hi=>by
      have:=M.mem (d:=D i) (l:=(List.range len).map D) (List.mem_map.2 ⟨i,List.mem_range.2 hi,rfl⟩)
      omega
    obtain⟨l,us,h1,h2,h3,h4,h5⟩:=Ez (Pl:=Pl) (a:=a) he hc hw len (λi hi=>hel i ae) hwt
    have hb:l.length≤1048576:=by
      have:=M.len ((List.range len).map D)
      rw[List.length_map,List.length_range]at this
      omega
    refine⟨l,.one ?_,hb,h4⟩
    by_cases hl0:len=0
    · subst hl0
      have:l=[]:=List.eq_nil_of_length_eq_zero h1
      subst this
      exact .gB
    · have hpos:0<len*w:=Nat.mul_pos ae h0
      obtain⟨b,off,spot⟩:=a
      have hc0:=h5 0 hpos
      rw[List.getElem?_eq_getElem ae]at hc0
      have hspot:spot=none:=by simpa[Addr.add]using World.cell?_spot hc0
      subst hspot
      obtain⟨hr,hbk⟩:=Ya hpos h2 (λi hi=>by rw[← add_plain];exact h5 i hi)
      rw[h1]
      exact .arr hlen hbk hr h3.1 h3.2
theorem zh{t:TypeId}{α β:Type}{c:α→List AV}{Q:α→Prop}{c':β→List AV}{Q':β→Prop}(h:Is M enc P W t c Q)(k:α→β)(h1: ∀ a,c' (k a)=c a)(h2: ∀ a,Q a→Q' (k a)):Is M enc P W t c' Q':=fun fuel cs x hx hw=>by
  obtain⟨a,ha,hq⟩:=h fuel cs x hx hw
  exact⟨k a,by rw[h1];exact ha,h2 a hq⟩
def fieldsOf(P:Program)(t:TypeId):List (TypeId×Nat):=match P.underlying t with
  |some (.struct fs)=>fs.toList.map λf=>(f.type,f.offset)
  |_=>[]
def l9(P:Program):Nat→List TypeId→List (TypeId×Nat)
  |_,[]=>[]
  |o,t::ts=>(t,o)::l9 P (o+P.cellsOf t) ts
def vP(P:Program):List TypeId→Nat
  |[]=>0
  |t::ts=>P.cellsOf t+vP P ts
def FT(enc:TypeId×Value→H)(P:Program)(W:World)(n:Nat):List TypeId→List Value→List (DataW H×List MemPlace)→Prop
  |[],_,xs=>xs=[]
  |t::ts,cs,x::xs=>DataW.trod enc P W 0 (λ_=>true) true n t (cs.take (P.cellsOf t))=some x/\FT enc P W n ts (cs.drop (P.cellsOf t)) xs
  |_::_,_,[]=>False
def uK{H:Type}(M:lN H)(enc:TypeId×Value→H)(P:Program)(W:World)(ts:List TypeId){α:Type}(c:α→List AV)(Q:α→Prop):Prop:=
  ∀ (n:Nat) (cs:List Value) (xs:List (DataW H×List MemPlace)),cs.length=vP P ts->FT enc P W n ts cs xs->M.ba (xs.map (·.1))<=1048576-> ∃ a:α,VL W (c a) cs/\Q a
theorem SV:uK M enc P W [] (fun _:Unit=>[]) (fun _=>True):=fun n cs xs hl _ _=>by
  have:cs=[]:=List.eq_nil_of_length_eq_zero hl
  subst this
  exact⟨(),.nil,trivial⟩
theorem gU{t:TypeId}{ts:List TypeId}{α β:Type}{c:α→List AV}{Q:α→Prop}{c':β→List AV}{Q':β→Prop}(h:Is M enc P W t c Q)(h':uK M enc P W ts c' Q'):
    uK M enc P W (t::ts) (λp:α×β=>c p.1++c' p.2) (λp=>Q p.1/\Q' p.2):=λn cs xs hl hf hk=>by
  cases xs with
  |nil=>exact hf.elim
  | cons x xs=>
    obtain⟨hx,hf⟩:=hf
    simp only[vP]at hl
    obtain⟨a,ha,hqa⟩:=h _ _ _ hx (by rw[List.map_cons,M.cons]at hk;omega)
    obtain⟨b,hb,hqb⟩:=h' n (cs.drop (P.cellsOf t)) xs (by rw[List.length_drop];omega) hf (by rw[List.map_cons,M.cons]at hk;omega)
    refine⟨(a,b),?_,hqa,hqb⟩
    have:=ha.append hb
    rwa[List.take_append_drop]at this
theorem Dx{n:Nat}: ∀ {ts:List TypeId} {o:Nat} {cs:List Value} {xs:List (DataW H×List MemPlace)},xs.length=ts.length→
    (∀ (i:Nat) (f:TypeId×Nat),(l9 P o ts)[i]? =some f->DataW.trod enc P W 0 (λ_=>true) true n f.1 ((cs.drop f.2).take (P.cellsOf f.1))=xs[i]?)->FT enc P W n ts (cs.drop o) xs
  |[],o,cs,xs,hl,h=>List.eq_nil_of_length_eq_zero hl
  |t::ts,o,cs,[],hl,h=>by simp at hl
  | t::ts,o,cs,x::xs,hl,h=>by
    refine⟨by simpa using h 0 (t,o) rfl,?_⟩
    rw[List.drop_drop]
    exact Dx (by simpa using hl) λi f hf=>by simpa using h (i+1) f (by simpa[l9]using hf)
theorem SX{t:TypeId}{ts:List TypeId}{α:Type}{c:α→List AV}{Q:α→Prop}(hs:(match P.underlying t with|some (.struct _)=>true|_=>false)=true)(hf:fieldsOf P t=l9 P 0 ts)(hsz:P.cellsOf t=vP P ts)
    (h:uK M enc P W ts c Q):Is M enc P W t c Q:=λfuel cs x hx hw=>by
  split at hs
  · rename_i fs hu
    obtain⟨xs,n,rfl,rfl,hl,hn,hi⟩:=DataW.trod_struct hu hx
    have hfs:fs.toList.map (λf=>(f.type,f.offset))=l9 P 0 ts:=by rw[← hf];unfold fieldsOf;rw[hu]
    have hlen: ∀ (o:Nat) (ts:List TypeId),(l9 P o ts).length=ts.length:=fun o ts=>by
      induction ts generalizing o with
      |nil=>rfl
      |cons t ts ih=>simp[l9,ih]
    have hts:fs.toList.map (·.type)=ts:=by
      have h1: ∀ (o:Nat) (ts:List TypeId),(l9 P o ts).map (·.1)=ts:=fun o ts=>by
        induction ts generalizing o with
        |nil=>rfl
        |cons t ts ih=>simp[l9,ih]
      rw[← h1 0 ts,← hfs,List.map_map]
      rfl
    refine h n cs xs (by rw[hl,hsz]) ?_ ?_
    · have:=Dx (enc:=enc) (P:=P) (W:=W) (n:=n) (ts:=ts) (o:=0) (cs:=cs) (xs:=xs) ?_ ?_
      · simpa using this
      · rw[hn,← hts];simp
      · intro i f hf'
        rw[← hfs,List.getElem?_map]at hf'
        cases hfi:fs.toList[i]? with
        |none=>rw[hfi]at hf';cases hf'
        | some g=>
          rw[hfi]at hf'
          simp at hf'
          subst hf'
          exact hi i g (by simpa using hfi)
    · simp only[M.ag]at hw
      omega
  · cases hs
theorem VW{ds:List (DataW H)}(h:M.ba ds<=1048576){j:Nat}{d:DataW H}(hd:ds[j]? =some d):M.bk d<=1048576:=Nat.le_trans (M.mem (List.mem_of_getElem? hd)) h
theorem Pn{t:TypeId}{α:Type}{f:α→AV}{Q:α→Prop}(h:Is M enc P W t (fun a=>[f a]) Q){v:Value}{d:DataW H}{p:List MemPlace}(hv:v.cells= #[v])(ht:DataW.Trod enc P W 0 (fun _=>true) true t v d p)
    (hw:M.bk d<=1048576): ∃ a:α,VC W.heap (qK W) (f a) v/\Q a:=by
  obtain⟨fuel,hf⟩:=ht
  rw[hv]at hf
  obtain⟨a,ha,hq⟩:=h fuel [v] (d,p) hf hw
  exact⟨a,ha.2 0 _ _ rfl rfl,hq⟩
theorem VI{t e:TypeId}{α:Type}{f:α→AV}{Q:α→Prop}(hu:P.underlying t=some (.slice e))(h:Is M enc P W t (fun a=>[f a]) Q){v:Value}{d:DataW H}{p:List MemPlace}{base:Nat}(hok:Value.okWide P W .any base t v)
    (ht:DataW.Trod enc P W 0 (λ_=>true) true t v d p) (hw:M.bk d<=1048576): ∃ a:α,VC W.heap (qK W) (f a) v/\Q a:=by
  obtain⟨a0,len,cap,rfl⟩:=okWide_slice hu hok
  exact Pn h rfl ht hw
theorem VH{t:TypeId}{α:Type}{c:α→List AV}{Q:α→Prop}(hs:(match P.underlying t with|some (.struct _)=>true|_=>false)=true)(h:Is M enc P W t c Q){v:Value}{d:DataW H}{p:List MemPlace}{base:Nat}(hok:Value.okWide P W .any base t v)
    (ht:DataW.Trod enc P W 0 (λ_=>true) true t v d p) (hw:M.bk d<=1048576): ∃ a:α,VC W.heap (qK W) (.agg (c a)) v/\Q a:=by
  split at hs
  · rename_i fs hu
    obtain⟨cs,rfl,hsz⟩:=okWide_struct hu hok
    obtain⟨fuel,hf⟩:=ht
    obtain⟨a,ha,hq⟩:=h fuel cs.toList (d,p) (by simpa[Value.cells]using hf) hw
    obtain⟨us⟩:=cs
    exact⟨a,.agg ha.1 ha.2,hq⟩
  · cases hs
theorem EG{α:Type}{f:α→AV}{l:List α}:fm (fun a=>[f a]) l=lm f l:=by
  induction l with
  |nil=>rfl
  |cons x l ih=>simp[fm,lm]at ih ⊢;exact ih
theorem atq{C:Checked}{os:Os}(started:os.Started){f:FuncId}{fn:Func}{s:ChangeSpec}{so:OpenSpec}{kk:(H:Type)→List (DataW H)→Bool}(hkk:so.cond=some kk)(hso: ∀ F,so.at F=s){F:Stop.Interp}{apart fresh handsOn:Bool}{conds:List PathCond}{tb:TypeId}(own:ownKnob C.prog.godebug=none)(noInit:C.prog.inits.idxOf? f=none)
    (hfn:C.prog.funcs[f]? =some fn) (laid:laidOutB C.prog=true) (hts: ∀ t ∈ fn.params.toList,C.prog.readableRec t=true/\t<C.prog.types.size) (hv:s.vars=[]) (hvo:so.vars=[])
    (hrt:fn.resultTypes= #[tb]) (htb:C.prog.underlying tb=some .bool)
    (hs: ∀ ds:List (DataW H),ds.length=fn.params.size->s.fn H ds={results:=[.lit (.bool true)],args:=ds})
    (witness: ∃ (w:World) (tape:Tape) (i:Input),w.os=os∧(w.forCall tape i).Shaped C.prog∧i.vars=[]∧Input.okWide C.prog (w.forCall tape i) .any w.heap.size f i∧
      so.pre6 enc C.prog fn conds apart (w.forCall tape i).memory i.args/\Assume.holds {} C.prog (lone (Frame.enter C.prog f i.args .normal) [] (w.forCall tape i)))
    (main: ∀ (W:World) (base:Nat) (args:Array Value) (ds:List (DataW H)) (p:List MemPlace),
      (∀ (j:Nat) t v,fn.params[j]? =some t->args[j]? =some v->Value.okWide C.prog W .any base t v)->
      DataW.TrodAll enc C.prog W 0 (λ_=>true) true fn.params.toList args.toList ds p->(∀ x ∈ p,x.block<W.heap.size)->
      kk H ds=true->
      Calls C.prog f args W λe W'=>e= .returned (.bool true)/\Below W.heap.size W W'):
    ReturnsInHanded {} C os f .any (so.pre6 enc C.prog fn conds apart) ((so.at F).post enc C.prog fn apart fresh handsOn false):=by
  refine returnsInHanded_of_cond (C:=C) (s:=so) hkk own started noInit hfn witness ?_
  rw[hso F]
  intro W base args ds gs before hval hW _ hk _
  have hW':=hW
  obtain⟨p,q,hA,hV,rfl,_,_⟩:=hW
  rw[hvo]at hV
  obtain⟨rfl,rfl⟩:=trodVars_none hV
  have hlt: ∀ x ∈ p,x.block<W.heap.size:=λx hx=>by simpa using hW'.lt x (by simp[hx])
  rw[List.append_nil]at hk
  refine(main W base args ds p hval hA hlt hk).mono λe W' ⟨he,hb⟩=> ?_
  have hlen:ds.length=fn.params.size:=by
    have : ∀ {ts:List TypeId} {vs:List Value} {ds:List (DataW H)} {ps:List MemPlace},DataW.TrodAll enc C.prog W 0 (fun _=>true) true ts vs ds ps→ds.length=ts.length:=by
      intro ts
      induction ts with
      |nil=>intro vs ds ps h;cases vs <;> cases ds <;> first|rfl|exact h.elim
      | cons t ts ih=>
        intro vs ds ps h
        cases vs with
        |nil=>cases ds <;> exact h.elim
        | cons v vs=>cases ds with
          |nil=>exact h.elim
          |cons d ds=>obtain⟨_,_,_,h2,_⟩:=h;simp[ih h2]
    simpa using this hA
  have hsp:=hs ds hlen
  rw[hvo,← hv]at hW'
  refine⟨_,he,ds,[],p++[],[],p,[],hW',?_,?_,?_,hb.frame _,λh=>by cases h⟩
  · rw[List.append_nil,hsp,hrt]
    exact trodAll_mk1 ⟨1,by simp[DataW.trod,htb,Value.cells]⟩
  · rw[List.append_nil,hsp]
    exact adD laid hb hts hA hlt
  · rw[hv,List.append_nil,hsp];rfl
end
end Go.Av
