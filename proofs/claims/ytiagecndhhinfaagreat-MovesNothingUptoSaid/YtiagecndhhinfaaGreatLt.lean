/- A region with a store among the quiet operations of its head, in walks. Conditions: those that each names. -/
import Derived.Test.YtiagecndhhinfaaGreatSl
set_option linter.unusedVariables false
set_option linter.defProp false
namespace Go.Av
section
variable (P:Program) (C:bG) (cp:aC) (ci:bz) (lvl:Nat) (prot:List Id) (D:List (Nat×List Nat)) (n:Nat) (K:KK)
def sO(all:List Oper)(m ps:Nat)(dr:Nat×List Nat)(fs:List Fr)(k i:Nat)(e:Env)(h:Heap):Option AV:=
  (o5 P lvl (λ_=>none) m all ps k i (e,h)).bind λh'=>kC P C cp ci lvl prot D n K all (all.drop m) e h' dr fs
def KU(all:List Oper)(m ps:Nat)(dr:Nat×List Nat)(fs:List Fr)(r:Env×Heap):Option AV:=sO P C cp ci lvl prot D n K all m ps dr fs m 0 r.1 r.2
def sK(k i:Nat)(all os:List Oper)(e:Env)(h:Heap)(m ps qs:Nat)(dr:Nat×List Nat)(fs:List Fr):Option AV:=
  (mY P C cp lvl (λ_=>none) all ps qs k i os e h).bind (KU P C cp ci lvl prot D n K all m ps dr fs)
def aai(k i:Nat)(all os:List Oper)(d:Option Tmp)(e:Env)(m ps qs:Nat)(dr:Nat×List Nat)(fs:List Fr)(r:AV×Heap):Option AV:=
  sK P C cp ci lvl prot D n K k i all os (dX e d r.1) r.2 m ps qs dr fs
def gl3(all:List Oper)(m ps:Nat)(dr:Nat×List Nat)(fs:List Fr)(k i:Nat)(e:Env)(h:Heap)(s:Id×ak):Option AV:=sO P C cp ci lvl prot D n K all m ps dr fs k i e (h.set s.1 s.2)
def KP(all:List Oper)(m:Nat)(dr:Nat×List Nat)(fs:List Fr)(e:Env)(o2:Oper)(d:Nat)(y:AV)(r:AV×Heap):Option AV:=
  kC P C cp ci lvl prot D n K all (all.drop (m+1)) ((dX (e.drop [d]) o2.dst r.1).set d y) r.2 dr fs
def KO(all:List Oper)(m:Nat)(dr:Nat×List Nat)(fs:List Fr)(e:Env)(h:Heap)(o2:Oper)(d:Nat)(y:AV):Option AV:=
  if flat y=true then(dw P C cp ci lvl (e.drop [d]) h o2.dst o2.op).bind (KP P C cp ci lvl prot D n K all m dr fs e o2 d y)else none
def KN(all:List Oper)(m:Nat)(dr:Nat×List Nat)(fs:List Fr)(e:Env)(h:Heap)(o2:Oper):Op→Option Tmp→Option AV
  | .move (.tmp a),some d=>(e.get a).bind (KO P C cp ci lvl prot D n K all m dr fs e h o2 d)
  |_,_=>none
def KL(all:List Oper)(m f:Nat)(dr:Nat×List Nat)(fs:List Fr)(r:Env×Heap):Option AV:=
  (all[f]?).bind λo=>(all[m]?).bind λo2=>KN P C cp ci lvl prot D n K all m dr fs r.1 r.2 o2 o.op o.dst
def gF(k:Nat)(all os:List Oper)(e:Env)(h:Heap)(m f:Nat)(dr:Nat×List Nat)(fs:List Fr):Option AV:=
  (kK P C cp ci lvl all k os e h).bind (KL P C cp ci lvl prot D n K all m f dr fs)
def gFn(k:Nat)(all os:List Oper)(d:Option Tmp)(e:Env)(m f:Nat)(dr:Nat×List Nat)(fs:List Fr)(r:AV×Heap):Option AV:=
  gF P C cp ci lvl prot D n K k all os (dX e d r.1) r.2 m f dr fs
def um(lvl m p:Nat)(all:List Oper)(t:TypeId)(id:Id)(off:Nat)(y:AV):ak→Option (Id×ak)
  | .bx true cells=>if y.cells.length=bD P t∧0<bD P t∧off+y.cells.length≤cells.length∧y.cells.all AV.one=true∧
      (id.1 != lvl || (List.range m).all λj=>((all[j]?).bind (·.dst)) != some id.2.1 || Region.waitsFor .any all.toArray p j)=true then some (id,.bx true (putCells cells off y.cells))else none
  |_=>none
def Tq(lvl m p:Nat)(all:List Oper)(t:TypeId)(id:Id)(off xt:Nat)(y:AV)(b:ak):Option (Id×ak):=BI P lvl (λ_=>none) m p all true t id off xt y b
def Tn(lvl m p:Nat)(all:List Oper)(t:TypeId)(h:Heap)(q y:AV):Option (Id×ak):=match q with
  | .ptr id off 0=>(h.get id).bind (um P lvl m p all t id off y)
  | .ptr id off (xt+1)=>(h.get id).bind (Tq P lvl m p all t id off xt y)
  |_=>none
end
section
variable {P:Program} {C:bG} {cp:aC} {ci:bz} {lvl:Nat} {prot:List Id} {D:List (Nat×List Nat)} {n:Nat} {K:KK}
variable {e:Env} {h:Heap} {fs:List Fr} {all os:List Oper} {dr:Nat×List Nat} {m p k i ps qs:Nat}
theorem atm{ops:List Oper}{ds:Nat×List Nat}:((tN P C cp ci lvl (fun _=>none) ops m ps qs e h).bind (oM lvl prot ds)).bind (fun r=>ret P C cp ci lvl prot D n K fs r.1 r.2.1 r.2.2)=sK P C cp ci lvl prot D n K m 0 ops ops e h m ps qs ds fs:=by
  unfold tN sK
  cases mY P C cp lvl (λ_=>none) ops ps qs m 0 ops e h with
  |none=>rfl
  | some r=>
    simp only[ai,KU,sO]
    cases o5 P lvl (λ_=>none) m ops ps m 0 (r.1,r.2)with
    |none=>rfl
    | some h1=>
      simp only[ai,kC]
      cases ji P C cp ci lvl ops (ops.drop m) r.1 h1 with
      |none=>rfl
      | some r2=>
        simp only[ai,oM,iF]
        cases post lvl prot ds.2 (r2.1.drop ds.2) r2.2 <;> rfl
theorem aga{ops:List Oper}{k:Nat}(hk:2000000≤k)(hw:(k - 2000000) / 1461501637330902918203684832716283019655932542976 / 1208925819614629174706176=0):qm P C cp ci lvl ops k e h=tN P C cp ci lvl (fun _=>none) ops (rC k) (vF k) (vG k) e h:=by
  unfold qm
  have h0: ¬ k<1000:=ae
  have h1: ¬ k<1000000:=ae
  have h2: ¬ k<2000000:=ae
  rw[if_neg h0,if_neg h1,if_neg h2]
  have:zn k h=λ_=>none:=if_pos hw
  rw[this]
theorem apI{i:Nat}{ops:List Oper}(hk:2000000≤(D.getD (2*i) (0,[])).1)(hw:((D.getD (2*i) (0,[])).1 - 2000000) / 1461501637330902918203684832716283019655932542976 / 1208925819614629174706176=0):go P C cp ci lvl prot D n K (.region i ⟨ops⟩ true) e h fs=
    sK P C cp ci lvl prot D n K (rC (D.getD (2*i) (0,[])).1) 0 ops ops e h (rC (D.getD (2*i) (0,[])).1) (vF (D.getD (2*i) (0,[])).1) (vG (D.getD (2*i) (0,[])).1) (D.getD (2*i) (0,[])) fs:=by
  unfold go
  rw[Ea,aga hk hw,atm]
theorem anA {f:Nat}{ops:List Oper}{ds:Nat×List Nat}:((Aq P C cp ci lvl ops m f e h).bind (oM lvl prot ds)).bind (fun r=>ret P C cp ci lvl prot D n K fs r.1 r.2.1 r.2.2)=gF P C cp ci lvl prot D n K m ops (ops.take m) e h m f ds fs:=by
  unfold Aq gF
  cases kK P C cp ci lvl ops m (ops.take m) e h with
  |none=>rfl
  | some r=>
    simp only[ai,KL]
    cases ops[f]? with
    |none=>rfl
    | some o=>
      simp only[ai]
      cases ops[m]? with
      |none=>rfl
      | some o2 =>
        simp only[ai]
        have key : ∀ (op:Op) (dd:Option Tmp),((Rz P C cp ci lvl ops m r o2 op dd).bind (oM lvl prot ds)).bind (fun r=>ret P C cp ci lvl prot D n K fs r.1 r.2.1 r.2.2)=KN P C cp ci lvl prot D n K ops m ds fs r.1 r.2 o2 op dd:=fun op dd=>by
          cases op <;> try rfl
          rename_i x
          cases x <;> try rfl
          rename_i a
          cases dd <;> try rfl
          rename_i d
          show(((r.1.get a).bind λy=>J3 P C cp ci lvl ops m d y r o2).bind _).bind _=(r.1.get a).bind _
          cases r.1.get a with
          |none=>rfl
          | some y=>
            simp only[ai]
            unfold J3 KO
            by_cases hf:flat y=true
            · rw [if_pos hf,if_pos hf]
              cases dw P C cp ci lvl (r.1.drop [d]) r.2 o2.dst o2.op with
              |none=>rfl
              | some z=>
                simp only[ai,KP,kC]
                cases ji P C cp ci lvl ops (ops.drop (m+1)) ((dX (r.1.drop [d]) o2.dst z.1).set d y) z.2 with
                |none=>rfl
                | some r2=>
                  simp only[ai,oM,iF]
                  cases post lvl prot ds.2 (r2.1.drop ds.2) r2.2 <;> rfl
            · rw[if_neg hf,if_neg hf];rfl
        exact key o.op o.dst
theorem af9{ops:List Oper}{k:Nat}(hk:1000≤k)(hk2:k<1000000):qm P C cp ci lvl ops k e h=Aq P C cp ci lvl ops (k%1000) (k / 1000 - 1) e h:=by
  unfold qm
  have h0: ¬ k<1000:=ae
  rw[if_neg h0,if_pos hk2]
theorem apG{i:Nat}{ops:List Oper}(hk:1000≤(D.getD (2*i) (0,[])).1)(hk2:(D.getD (2*i) (0,[])).1<1000000):go P C cp ci lvl prot D n K (.region i ⟨ops⟩ true) e h fs=
    gF P C cp ci lvl prot D n K ((D.getD (2*i) (0,[])).1%1000) ops (ops.take ((D.getD (2*i) (0,[])).1%1000)) e h ((D.getD (2*i) (0,[])).1%1000) ((D.getD (2*i) (0,[])).1 / 1000 - 1) (D.getD (2*i) (0,[])) fs:=by
  unfold go
  rw[Ea,af9 hk hk2,anA]
theorem ao7{f:Nat}:gF P C cp ci lvl prot D n K 0 all [] e h m f dr fs=KL P C cp ci lvl prot D n K all m f dr fs (e,h):=rfl
theorem ao6{f:Nat}{d op ty pos after}:gF P C cp ci lvl prot D n K (k+1) all (⟨d,op,ty,pos,after,none⟩::os) e h m f dr fs=
    (qo lvl (d.getD 0) h (bZ P C cp e.get h.get op)).bind (gFn P C cp ci lvl prot D n K k all os d e m f dr fs):=by
  unfold gF
  simp only[kK]
  show((bZ P C cp e.get h.get op).bind λt=>_).bind _=_
  cases bZ P C cp e.get h.get op with
  |none=>rfl
  | some t=>
    simp only[qo,ai]
    cases bC lvl (d.getD 0) 4 t (0,h) <;> rfl
theorem ao8{f:Nat}{d y}:gFn P C cp ci lvl prot D n K k all os d e m f dr fs (y,h)=gF P C cp ci lvl prot D n K k all os (dX e d y) h m f dr fs:=rfl
theorem ao2{f:Nat}:KL P C cp ci lvl prot D n K all m f dr fs (e,h)=(all[f]?).bind λo=>(all[m]?).bind λo2=>KN P C cp ci lvl prot D n K all m dr fs e h o2 o.op o.dst:=rfl
theorem ao3{a d:Nat}{o2:Oper}:KN P C cp ci lvl prot D n K all m dr fs e h o2 (.move (.tmp a)) (some d)=(e.get a).bind (KO P C cp ci lvl prot D n K all m dr fs e h o2 d):=rfl
theorem ao4{d:Nat}{o2:Oper}{y:AV}(hy:flat y=true):KO P C cp ci lvl prot D n K all m dr fs e h o2 d y=(dw P C cp ci lvl (e.drop [d]) h o2.dst o2.op).bind (KP P C cp ci lvl prot D n K all m dr fs e o2 d y):=if_pos hy
theorem ao5{d:Nat}{o2:Oper}{y z:AV}:KP P C cp ci lvl prot D n K all m dr fs e o2 d y (z,h)=kC P C cp ci lvl prot D n K all (all.drop (m+1)) ((dX (e.drop [d]) o2.dst z).set d y) h dr fs:=rfl
theorem as4{k:Nat}:rC k=(k - 2000000) / 1461501637330902918203684832716283019655932542976%1208925819614629174706176:=rfl
theorem as6{k:Nat}:vF k=(k - 2000000) / 1208925819614629174706176%1208925819614629174706176:=rfl
theorem ata{k:Nat}:vG k=(k - 2000000)%1208925819614629174706176:=rfl
theorem apS:sK P C cp ci lvl prot D n K 0 i all os e h m ps qs dr fs=KU P C cp ci lvl prot D n K all m ps dr fs (e,h):=by cases os <;> rfl
theorem apR{op ty pos after gd}(hi:ps.testBit i=true):sK P C cp ci lvl prot D n K (k+1) i all (⟨none,op,ty,pos,after,gd⟩::os) e h m ps qs dr fs=sK P C cp ci lvl prot D n K k (i+1) all os e h m ps qs dr fs:=by
  unfold sK
  simp only[mY]
  rw[if_pos hi]
  rfl
theorem apQ{d op ty pos after}(hi:ps.testBit i=false):sK P C cp ci lvl prot D n K (k+1) i all (⟨d,op,ty,pos,after,none⟩::os) e h m ps qs dr fs=
    (qo lvl (d.getD 0) h (nN P C cp (qs.testBit i) (λ_=>none) e.get h op)).bind (aai P C cp ci lvl prot D n K k (i+1) all os d e m ps qs dr fs):=by
  unfold sK
  simp only[mY]
  rw[if_neg (by rw[hi];decide)]
  show((nN P C cp (qs.testBit i) (λ_=>none) e.get h op).bind λt=>_).bind _=_
  cases nN P C cp (qs.testBit i) (λ_=>none) e.get h op with
  |none=>rfl
  | some t=>
    simp only[qo,ai]
    cases bC lvl (d.getD 0) 4 t (0,h) <;> rfl
theorem apk{d y}:aai P C cp ci lvl prot D n K k i all os d e m ps qs dr fs (y,h)=sK P C cp ci lvl prot D n K k i all os (dX e d y) h m ps qs dr fs:=rfl
theorem afu{q:Bool}{e:Nat->Option AV}{o:Op}(hq:q=true):nN P C cp q (λ_=>none) e h o=BX (bZ P C cp e (λ_=>none) o) (xh P e h o):=by subst hq;rfl
theorem afr{q:Bool}{e:Nat->Option AV}{o:Op}(hq:q=false):nN P C cp q (λ_=>none) e h o=bZ P C cp e h.get o:=by subst hq;rfl
theorem awd{t:AV}{y:Option AV}:BX (some t) y=some t:=rfl
theorem awc{y:Option AV}:BX none y=y:=rfl
theorem atj{e:Nat->Option AV}{x:Operand}:xh P e h (.nilCheck x)=(aB e x).bind (LK h):=rfl
theorem ati{e:Nat->Option AV}{x:Operand}{s:TypeId}{i:Nat}:xh P e h (.fieldAddr s x i)=(aB e x).bind (LH P s i h):=rfl
theorem as3{id:Id}{off:Nat}:LK h (.ptr id off 0)=(h.get id).bind (LM id off):=rfl
theorem as2{id:Id}{off:Nat}{rw:Bool}{cells:List AV}:LM id off (.bx rw cells)=some (.ptr id off 0):=rfl
theorem asZ{s:TypeId}{i:Nat}{id:Id}{off:Nat}:LH P s i h (.ptr id off 0)=(h.get id).bind (ED P s i id off):=rfl
theorem asY{s:TypeId}{i o:Nat}{t:TypeId}{id:Id}{off:Nat}{rw:Bool}{cells:List AV}(hf:dR P s i=some (o,t))(ht:(bD P t=0)=False):ED P s i id off (.bx rw cells)=some (.ptr id (off+o) 0):=by
  unfold ED
  rw[hf]
  show(if bD P t=0 then none else _)=_
  rw[if_neg (by rw[ht];exact λhh=>hh)]
theorem aph:KU P C cp ci lvl prot D n K all m ps dr fs (e,h)=sO P C cp ci lvl prot D n K all m ps dr fs m 0 e h:=rfl
theorem api{id:Id}{b:ak}:gl3 P C cp ci lvl prot D n K all m ps dr fs k i e h (id,b)=sO P C cp ci lvl prot D n K all m ps dr fs k i e (h.set id b):=rfl
theorem aqf:sO P C cp ci lvl prot D n K all m ps dr fs 0 i e h=kC P C cp ci lvl prot D n K all (all.drop m) e h dr fs:=rfl
theorem aqd(hi:ps.testBit i=false):sO P C cp ci lvl prot D n K all m ps dr fs (k+1) i e h=sO P C cp ci lvl prot D n K all m ps dr fs k (i+1) e h:=by
  unfold sO
  simp only[o5]
  rw[if_neg (by rw[hi];decide)]
theorem aqe(hi:ps.testBit i=true):sO P C cp ci lvl prot D n K all m ps dr fs (k+1) i e h=(all[i]?).bind fun o=>(nT P lvl (fun _=>none) m i all (e,h) o).bind (gl3 P C cp ci lvl prot D n K all m ps dr fs k (i+1) e h):=by
  unfold sO
  simp only[o5]
  rw[if_pos hi]
  cases all[i]? with
  |none=>rfl
  | some o=>
    simp only[ai]
    cases nT P lvl (λ_=>none) m i all (e,h) o <;> rfl
def xR(all:List Oper)(j i:Nat):Bool:=match all[j]? with
  |some o=>o.after.toList.any λe=>Region.binds .any e&&e.on==i
  |none=>false
theorem NM:xR all k i=Region.waitsFor .any all.toArray k i:=by
  unfold xR Region.waitsFor
  simp only[List.getElem?_toArray]
  cases all[k]? with
  |none=>rfl
  |some o=>simp only[Array.any_toList]
theorem atf{t:TypeId}{a x:Operand}{ty pos after}:nT P lvl (fun _=>none) m p all (e,h) ⟨none,.store t a x,ty,pos,after,none⟩=(aB e.get a).bind fun q=>(aB e.get x).bind (Tn P lvl m p all t h q):=by
  show((aB e.get a).bind λq=>(aB e.get x).bind λy=>_)=_
  congr 1
  funext q
  congr 1
  funext y
  cases q <;> try rfl
  rename_i id off ext
  cases ext with
  | succ x=>
    show(h.get id).bind _=(h.get id).bind _
    congr 1
  | zero=>
    show((h.get id).bind λb=>_)=(h.get id).bind _
    congr 1
    funext b
    cases b with
    |sl=>rfl
    |bx rw cells=>cases rw <;> simp[um]
theorem as8{t:TypeId}{id:Id}{off:Nat}{y:AV}:Tn P lvl m p all t h (.ptr id off 0) y=(h.get id).bind (um P lvl m p all t id off y):=rfl
theorem asX{t:TypeId}{id:Id}{off:Nat}{k:IntKind}{z:Int}{cells:List AV}(hs:bD P t=1)(ho:off<cells.length)
    (hc:(id.1 != lvl || (List.range m).all λj=>((all[j]?).bind (·.dst)) != some id.2.1 || xR all p j)=true):um P lvl m p all t id off (.v (.int k z)) (.bx true cells)=some (id,.bx true (putCells cells off [.v (.int k z)])):=by
  simp only[NM]at hc
  show(if(AV.v (.int k z)).cells.length=bD P t/\0<bD P t/\off+(AV.v (.int k z)).cells.length<=cells.length/\(AV.v (.int k z)).cells.all AV.one=true/\_ then _ else none)=_
  rw[if_pos ⟨by rw[hs];rfl,by omega,by show off+1<=_;omega,rfl,hc⟩]
  rfl
def Tt(P:Program)(lvl m p:Nat)(all:List Oper)(t:TypeId)(id:Id)(off ext:Nat)(k:IntKind)(z:Int)(b:ak):Option (Id×ak):=Tq P lvl m p all t id off (ext - 1) (.v (.int k z)) b
theorem as9{t:TypeId}{id:Id}{off ext:Nat}{k:IntKind}{z:Int}(h0:0<ext):Tn P lvl m p all t h (.ptr id off ext) (.v (.int k z))=(h.get id).bind (Tt P lvl m p all t id off ext k z):=by
  cases ext with
  |zero=>omega
  |succ x=>rfl
theorem atb{t:TypeId}{id:Id}{off ext sz:Nat}{k:IntKind}{z:Int}{cells:List AV}(h0:0<ext)(hs:bD P t=1)(ho:off<cells.length)
    (hc:(id.1 != lvl || (List.range m).all λj=>((all[j]?).bind (·.dst)) != some id.2.1 || xR all p j)=true):Tt P lvl m p all t id off ext k z (.sl true true sz ext cells)=some (id,.sl true true sz ext (putCells cells off [.v (.int k z)])):=by
  simp only[NM]at hc
  unfold Tt Tq BI
  simp only[]
  rw[if_pos ⟨trivial,rfl,by omega,hs,by omega,hc⟩]
def Tm(w lvl m p:Nat)(all:List Oper)(id:Id)(off:Nat)(ys cells:List AV):Option (Id×ak):=
  if ys.length=w/\0<w/\off+ys.length<=cells.length/\ys.all AV.one=true/\(id.1 != lvl || (List.range m).all λj=>((all[j]?).bind (·.dst)) != some id.2.1 || xR all p j)=true then some (id,.bx true (putCells cells off ys))else none
theorem asV{t:TypeId}{id:Id}{off:Nat}{ys cells:List AV}:um P lvl m p all t id off (.agg ys) (.bx true cells)=Tm (bD P t) lvl m p all id off ys cells:=by
  unfold Tm
  simp only[NM]
  rfl
theorem as1{w:Nat}{id:Id}{off:Nat}{ys cells:List AV}(hs:ys.length=w)(h0:0<w)(ho:off+ys.length≤cells.length)(h1:ys.all AV.one=true)
    (hc:(id.1 != lvl || (List.range m).all λj=>((all[j]?).bind (·.dst)) != some id.2.1 || xR all p j)=true):Tm w lvl m p all id off ys cells=some (id,.bx true (putCells cells off ys)):=if_pos ⟨hs,h0,ho,h1,hc⟩
def RLO:=af @apI<|af @apG<|af @ao7<|af @ao6<|af @ao8<|af @ao2<|af @ao3<|af @ao4<|af @ao5<|af @as4<|af @as6<|af @ata<|af @apS<|af @apR<|af @apQ<|af @apk<|af @afu<|af @afr<|af @awd<|af @awc<|af @atj<|af @ati<|af @as3<|af @as2<|af @asZ<|af @asY<|af @aph<|af @api<|af @aqf<|af @aqd<|af @aqe<|af @atf<|af @as8<|af @as9<|af @atb<|af @asX<|af @asV @as1
end
section
variable (P:Program) (C:bG) (cp:aC) (ci:bz) (lvl:Nat) (prot:List Id) (D:List (Nat×List Nat)) (n:Nat) (K:KK) (G:Id->Option ak)
def sN(all:List Oper)(m ps:Nat)(dr:Nat×List Nat)(fs:List Fr)(k i:Nat)(e:Env)(h:Heap):Option AV:=
  (o5 P lvl G m all ps k i (e,h)).bind λh'=>kC P C cp ci lvl prot D n K all (all.drop m) e h' dr fs
def KQ(all:List Oper)(m ps:Nat)(dr:Nat×List Nat)(fs:List Fr)(r:Env×Heap):Option AV:=sN P C cp ci lvl prot D n K G all m ps dr fs m 0 r.1 r.2
def qZ(k i:Nat)(all os:List Oper)(e:Env)(h:Heap)(m ps qs:Nat)(dr:Nat×List Nat)(fs:List Fr):Option AV:=
  (mY P C cp lvl G all ps qs k i os e h).bind (KQ P C cp ci lvl prot D n K G all m ps dr fs)
def gnX(k i:Nat)(all os:List Oper)(d:Option Tmp)(e:Env)(m ps qs:Nat)(dr:Nat×List Nat)(fs:List Fr)(r:AV×Heap):Option AV:=
  qZ P C cp ci lvl prot D n K G k i all os (dX e d r.1) r.2 m ps qs dr fs
def gX3(all:List Oper)(m ps:Nat)(dr:Nat×List Nat)(fs:List Fr)(k i:Nat)(e:Env)(h:Heap)(s:Id×ak):Option AV:=sN P C cp ci lvl prot D n K G all m ps dr fs k i e (h.set s.1 s.2)
def laT(m p:Nat)(all:List Oper)(e:Env)(h:Heap)(d:Tmp)(a b:Operand):TV→Option (Id×ak)
  | .slice el esz by_=>(dU P el).bind λz=>(aB e.get a).bind λx=>(aB e.get b).bind λy=>BG lvl G m p all h by_ esz (decide (z.length=esz)&&decide (0<esz)) (e.get d) x y
  |_=>none
end
def Tj(lvl:Nat)(G:Id→Option ak)(m p:Nat)(all:List Oper)(e:Env)(h:Heap)(d:Tmp)(a b:Operand)(esz by_:Nat)(z:List AV):Option (Id×ak):=
  (aB e.get a).bind λx=>(aB e.get b).bind λy=>BG lvl G m p all h by_ esz (decide (z.length=esz)&&decide (0<esz)) (e.get d) x y
def laX(lvl:Nat)(G:Id→Option ak)(m p:Nat)(all:List Oper)(e:Env)(h:Heap)(d:Tmp)(b:Operand)(esz by_:Nat)(x:AV):Option (Id×ak):=
  (aB e.get b).bind λy=>BG lvl G m p all h by_ esz true (e.get d) x y
def laY(lvl:Nat)(G:Id->Option ak)(m p:Nat)(all:List Oper)(e:Env)(h:Heap)(d:Tmp)(esz by_:Nat)(x y:AV):Option (Id×ak):=BG lvl G m p all h by_ esz true (e.get d) x y
def laB(lvl:Nat)(G:Id→Option ak)(m p:Nat)(all:List Oper)(e:Env)(h:Heap)(d:Tmp)(esz by_:Nat)(id:Id)(k ext:Nat)(id2:Id)(off2 mm ext2:Nat)(b:ak):Option (Id×ak):=
  (h.get id2).bind λb2=>EC by_ esz (true&&(G id).isNone&&vH lvl m p all id&&vH lvl m p all id2) id k ext mm ext2 off2 (e.get d) b b2
def Ti(lvl:Nat)(G:Id→Option ak)(m p:Nat)(all:List Oper)(e:Env)(d:Tmp)(esz by_:Nat)(id:Id)(k ext:Nat)(id2:Id)(off2 mm ext2:Nat)(b b2:ak):Option (Id×ak):=
  EC by_ esz (true&&(G id).isNone&&vH lvl m p all id&&vH lvl m p all id2) id k ext mm ext2 off2 (e.get d) b b2
def ly2:Option AV→Option AV→AV
  |some x,some y=>Tz x y
  |_,_=> .v undef
section
variable {P:Program} {C:bG} {cp:aC} {ci:bz} {lvl:Nat} {prot:List Id} {D:List (Nat×List Nat)} {n:Nat} {K:KK} {G:Id->Option ak}
variable {e:Env} {h:Heap} {fs:List Fr} {all os:List Oper} {dr:Nat×List Nat} {m p k i ps qs:Nat}
theorem aaW{ops:List Oper}{ds:Nat×List Nat}:((tN P C cp ci lvl G ops m ps qs e h).bind (oM lvl prot ds)).bind (fun r=>ret P C cp ci lvl prot D n K fs r.1 r.2.1 r.2.2)=qZ P C cp ci lvl prot D n K G m 0 ops ops e h m ps qs ds fs:=by
  unfold tN qZ
  cases mY P C cp lvl G ops ps qs m 0 ops e h with
  |none=>rfl
  | some r=>
    simp only[ai,KQ,sN]
    cases o5 P lvl G m ops ps m 0 (r.1,r.2)with
    |none=>rfl
    | some h1=>
      simp only[ai,kC]
      cases ji P C cp ci lvl ops (ops.drop m) r.1 h1 with
      |none=>rfl
      | some r2=>
        simp only[ai,oM,iF]
        cases post lvl prot ds.2 (r2.1.drop ds.2) r2.2 <;> rfl
theorem agc{ops:List Oper}{k:Nat}(hk:2000000≤k)(hw:(k - 2000000) / 1461501637330902918203684832716283019655932542976 / 1208925819614629174706176=2):qm P C cp ci lvl ops k e h=tN P C cp ci lvl (uS h) ops (rC k) (vF k) (vG k) e h:=by
  unfold qm
  have h0: ¬ k<1000:=ae
  have h1: ¬ k<1000000:=ae
  have h2: ¬ k<2000000:=ae
  rw[if_neg h0,if_neg h1,if_neg h2]
  have:zn k h=uS h:=by
    unfold zn
    rw[if_neg ae,if_neg ae]
  rw[this]
theorem apK{i:Nat}{ops:List Oper}(hk:2000000≤(D.getD (2*i) (0,[])).1)(hw:((D.getD (2*i) (0,[])).1 - 2000000) / 1461501637330902918203684832716283019655932542976 / 1208925819614629174706176=2):go P C cp ci lvl prot D n K (.region i ⟨ops⟩ true) e h fs=
    qZ P C cp ci lvl prot D n K (uS h) (rC (D.getD (2*i) (0,[])).1) 0 ops ops e h (rC (D.getD (2*i) (0,[])).1) (vF (D.getD (2*i) (0,[])).1) (vG (D.getD (2*i) (0,[])).1) (D.getD (2*i) (0,[])) fs:=by
  unfold go
  rw[Ea,agc hk hw,aaW]
theorem apq:qZ P C cp ci lvl prot D n K G 0 i all os e h m ps qs dr fs=KQ P C cp ci lvl prot D n K G all m ps dr fs (e,h):=by cases os <;> rfl
theorem apo{d op ty pos after gd}(hi:ps.testBit i=true):qZ P C cp ci lvl prot D n K G (k+1) i all (⟨d,op,ty,pos,after,gd⟩::os) e h m ps qs dr fs=qZ P C cp ci lvl prot D n K G k (i+1) all os (dX e d (Tv e.get op)) h m ps qs dr fs:=by
  unfold qZ
  simp only[mY]
  rw[if_pos hi]
theorem apn{d op ty pos after}(hi:ps.testBit i=false):qZ P C cp ci lvl prot D n K G (k+1) i all (⟨d,op,ty,pos,after,none⟩::os) e h m ps qs dr fs=
    (qo lvl (d.getD 0) h (nN P C cp (qs.testBit i) G e.get h op)).bind (gnX P C cp ci lvl prot D n K G k (i+1) all os d e m ps qs dr fs):=by
  unfold qZ
  simp only[mY]
  rw[if_neg (by rw[hi];decide)]
  show((nN P C cp (qs.testBit i) G e.get h op).bind λt=>_).bind _=_
  cases nN P C cp (qs.testBit i) G e.get h op with
  |none=>rfl
  | some t=>
    simp only[qo,ai]
    cases bC lvl (d.getD 0) 4 t (0,h) <;> rfl
theorem apj{d y}:gnX P C cp ci lvl prot D n K G k i all os d e m ps qs dr fs (y,h)=qZ P C cp ci lvl prot D n K G k i all os (dX e d y) h m ps qs dr fs:=rfl
theorem afw{q:Bool}{h0:Heap}{e:Nat->Option AV}{o:Op}(hq:q=true):nN P C cp q (uS h0) e h o=BX (bZ P C cp e (uS h0) o) (xh P e h o):=by subst hq;rfl
theorem aft{q:Bool}{h0:Heap}{e:Nat->Option AV}{o:Op}(hq:q=false):nN P C cp q (uS h0) e h o=bZ P C cp e h.get o:=by subst hq;rfl
theorem aiB{id:Id}:uS h id=(h.get id).bind PP:=rfl
theorem aiC{rw:Bool}{cells:List AV}:PP (.bx rw cells)=some (.bx rw cells):=rfl
theorem atl{e:Nat→Option AV}{a b:Operand}{ts:Array TypeId}:Tv e (.call ⟨.builtin .append,⟨[a,b]⟩,ts⟩)=ly2 (aB e a) (aB e b):=by
  show(match aB e a,aB e b with|some x,some y=>Tz x y|_,_=>AV.v undef)=_
  cases aB e a <;> cases aB e b <;> rfl
theorem auf{id id2:Id}{k x o mm z:Nat}:ly2 (some (.own id 0 k x)) (some (.own id2 o mm z))= .own id 0 (k+mm) (k+mm):=rfl
theorem apb:KQ P C cp ci lvl prot D n K G all m ps dr fs (e,h)=sN P C cp ci lvl prot D n K G all m ps dr fs m 0 e h:=rfl
theorem apc{id:Id}{b:ak}:gX3 P C cp ci lvl prot D n K G all m ps dr fs k i e h (id,b)=sN P C cp ci lvl prot D n K G all m ps dr fs k i e (h.set id b):=rfl
theorem aqb:sN P C cp ci lvl prot D n K G all m ps dr fs 0 i e h=kC P C cp ci lvl prot D n K all (all.drop m) e h dr fs:=rfl
theorem ap9(hi:ps.testBit i=false):sN P C cp ci lvl prot D n K G all m ps dr fs (k+1) i e h=sN P C cp ci lvl prot D n K G all m ps dr fs k (i+1) e h:=by
  unfold sN
  simp only[o5]
  rw[if_neg (by rw[hi];decide)]
theorem aqa(hi:ps.testBit i=true):sN P C cp ci lvl prot D n K G all m ps dr fs (k+1) i e h=(all[i]?).bind fun o=>(nT P lvl G m i all (e,h) o).bind (gX3 P C cp ci lvl prot D n K G all m ps dr fs k (i+1) e h):=by
  unfold sN
  simp only[o5]
  rw[if_pos hi]
  cases all[i]? with
  |none=>rfl
  | some o=>
    simp only[ai]
    cases nT P lvl G m i all (e,h) o <;> rfl
theorem ate{d:Tmp}{a b:Operand}{t:TypeId}{ty pos after}:nT P lvl G m p all (e,h) ⟨some d,.call ⟨.builtin .append,⟨[a,b]⟩,#[t,t]⟩,ty,pos,after,none⟩=(aX P t).bind (laT P lvl G m p all e h d a b):=by
  show(aX P t).bind _=_
  cases aX P t with
  |none=>rfl
  | some tv=>
    show LG P lvl G m p all (e,h) _ a b t t tv=_
    cases tv <;> try rfl
    simp only[LG,decide_true,Bool.true_and,Option.isNone_none,Option.isSome_some,Bool.and_true]
    rfl
theorem asP{d:Tmp}{a b:Operand}{el:TypeId}{esz by_:Nat}:laT P lvl G m p all e h d a b (.slice el esz by_)=(dU P el).bind (Tj lvl G m p all e h d a b esz by_):=rfl
theorem asT{d:Tmp}{a b:Operand}{esz by_:Nat}{z:List AV}(hl:z.length=esz)(h0:0<esz):Tj lvl G m p all e h d a b esz by_ z=(aB e.get a).bind (laX lvl G m p all e h d b esz by_):=by
  unfold Tj
  simp only[hl,h0,decide_true,Bool.and_self]
  rfl
theorem asQ{d:Tmp}{b:Operand}{esz by_:Nat}{x:AV}:laX lvl G m p all e h d b esz by_ x=(aB e.get b).bind (laY lvl G m p all e h d esz by_ x):=rfl
theorem asR{d:Tmp}{esz by_:Nat}{id id2:Id}{k ext off2 mm ext2:Nat}:laY lvl G m p all e h d esz by_ (.own id 0 k ext) (.own id2 off2 mm ext2)=(h.get id).bind (laB lvl G m p all e h d esz by_ id k ext id2 off2 mm ext2):=rfl
theorem asN{d:Tmp}{esz by_:Nat}{id id2:Id}{k ext off2 mm ext2:Nat}{b:ak}:laB lvl G m p all e h d esz by_ id k ext id2 off2 mm ext2 b=(h.get id2).bind (Ti lvl G m p all e d esz by_ id k ext id2 off2 mm ext2 b):=rfl
theorem aso{id:Id}{k:Nat}:Ey id k (some (.own id 0 k k))=true:=by simp[Ey]
theorem asO{d:Tmp}{by_:Nat}{id id2:Id}{l:List Int}{z:Int}{kk:IntKind}{kx:Nat}(hx:kx=l.length)(hG:(G id).isNone=true)(hy:e.get d=some (.own id 0 (kx+1) (kx+1)))(h3:kx+1≤140737488355328)(h4:(kx+1)*by_≤140737488355328)
    (hc:(id.1 != lvl || (List.range m).all λj=>((all[j]?).bind (·.dst)) != some id.2.1 || xR all p j)=true) (hc2:(id2.1 != lvl || (List.range m).all λj=>((all[j]?).bind (·.dst)) != some id2.2.1 || xR all p j)=true) {rw2:Bool}:
    Ti lvl G m p all e d 1 by_ id kx kx id2 0 1 1 (.sl true true 1 kx (lm (ik kk) l)) (.sl true rw2 1 1 [.v (.int kk z)])=some (id,.sl true true 1 (kx+1) (lm (ik kk) (l++[z]))):=by
  simp only[NM]at hc hc2
  have w1:vH lvl m p all id=true:=hc
  have w2:vH lvl m p all id2=true:=hc2
  unfold Ti EC
  simp only[hG,w1,w2,hy,aso,Bool.and_self]
  have hcut:cut [AV.v (.int kk z)] 0 1 1 1=[AV.v (.int kk z)]:=rfl
  rw[hcut,if_pos ⟨trivial,trivial,trivial,trivial,trivial,trivial,rfl,h3,h4,rfl⟩]
  have e1:lm (ik kk) l++[AV.v (.int kk z)]=lm (ik kk) (l++[z]):=by simp[lm,ik]
  rw[e1]
def RLX:=af @apK<|af @apq<|af @apo<|af @apn<|af @apj<|af @afw<|af @aft<|af @aiB<|af @aiC<|af @atl<|af @auf<|af @apb<|af @apc<|af @aqb<|af @ap9<|af @aqa<|af @ate<|af @asP<|af @asT<|af @asQ<|af @asR<|af @asN<| @asO
end
def uP(h:Heap)(id:Id):Option ak:=h.get id
def BH(P:Program)(lvl m p:Nat)(all:List Oper)(t:TypeId)(id:Id)(off:Nat)(y:AV)(g:Option ak)(b:ak):Option (Id×ak):=if g.isNone=true then um P lvl m p all t id off y b else none
def aaV(P:Program)(lvl m p:Nat)(all:List Oper)(t:TypeId)(h:Heap)(G:Id→Option ak)(q y:AV):Option (Id×ak):=match q with
  | .ptr id off 0=>(h.get id).bind (BH P lvl m p all t id off y (G id))
  | .ptr id off (xt+1)=>(h.get id).bind (BI P lvl G m p all true t id off xt y)
  |_=>none
section
variable {P:Program} {C:bG} {cp:aC} {ci:bz} {lvl:Nat} {prot:List Id} {D:List (Nat×List Nat)} {n:Nat} {K:KK} {G:Id->Option ak}
variable {e:Env} {h:Heap} {fs:List Fr} {all os:List Oper} {dr:Nat×List Nat} {m p k i ps qs:Nat}
theorem agb{ops:List Oper}{k:Nat}(hk:2000000≤k)(hw:(k - 2000000) / 1461501637330902918203684832716283019655932542976 / 1208925819614629174706176=1):qm P C cp ci lvl ops k e h=tN P C cp ci lvl (uP h) ops (rC k) (vF k) (vG k) e h:=by
  unfold qm
  have h0: ¬ k<1000:=ae
  have h1: ¬ k<1000000:=ae
  have h2: ¬ k<2000000:=ae
  rw[if_neg h0,if_neg h1,if_neg h2]
  have:zn k h=uP h:=by
    unfold zn
    rw[if_neg ae,if_pos hw]
    rfl
  rw[this]
theorem apJ{i:Nat}{ops:List Oper}(hk:2000000≤(D.getD (2*i) (0,[])).1)(hw:((D.getD (2*i) (0,[])).1 - 2000000) / 1461501637330902918203684832716283019655932542976 / 1208925819614629174706176=1):go P C cp ci lvl prot D n K (.region i ⟨ops⟩ true) e h fs=
    qZ P C cp ci lvl prot D n K (uP h) (rC (D.getD (2*i) (0,[])).1) 0 ops ops e h (rC (D.getD (2*i) (0,[])).1) (vF (D.getD (2*i) (0,[])).1) (vG (D.getD (2*i) (0,[])).1) (D.getD (2*i) (0,[])) fs:=by
  unfold go
  rw[Ea,agb hk hw,aaW]
theorem afv{q:Bool}{h0:Heap}{e:Nat->Option AV}{o:Op}(hq:q=true):nN P C cp q (uP h0) e h o=BX (bZ P C cp e h0.get o) (xh P e h o):=by subst hq;rfl
theorem afs{q:Bool}{h0:Heap}{e:Nat->Option AV}{o:Op}(hq:q=false):nN P C cp q (uP h0) e h o=bZ P C cp e h.get o:=by subst hq;rfl
theorem ae6{id:Id}:uP h id=h.get id:=rfl
theorem atd{h0:Heap}{t:TypeId}{a x:Operand}{ty pos after}:nT P lvl (uP h0) m p all (e,h) ⟨none,.store t a x,ty,pos,after,none⟩=(aB e.get a).bind fun q=>(aB e.get x).bind (aaV P lvl m p all t h (uP h0) q):=by
  show((aB e.get a).bind λq=>(aB e.get x).bind λy=>_)=_
  congr 1
  funext q
  congr 1
  funext y
  cases q <;> try rfl
  rename_i id off ext
  cases ext with
  |succ x=>rfl
  | zero=>
    show((h.get id).bind λb=>_)=(h.get id).bind _
    congr 1
    funext b
    cases b with
    |sl=>unfold BH um;simp
    | bx rw cells=>
      cases rw
      · unfold BH um;simp
      · unfold BH um
        cases hg:(uP h0 id).isNone <;> simp
theorem as7{t:TypeId}{id:Id}{off:Nat}{y:AV}:aaV P lvl m p all t h G (.ptr id off 0) y=(h.get id).bind (BH P lvl m p all t id off y (G id)):=rfl
theorem asU{t:TypeId}{id:Id}{off:Nat}{y:AV}{b:ak}:BH P lvl m p all t id off y none b=um P lvl m p all t id off y b:=if_pos rfl
def RLA:=af @apJ<|af @afv<|af @afs<|af @ae6<|af @atd<|af @as7 @asU
end
def RL:=af RLA<|af RLX RLO
def FY(D:List (Nat×List Nat)):Nat→List (Nat×List Nat)→Prop
  |_,[]=>True
  |i,[x]=>D.getD i (0,[])=x
  |i,x::y::l=>D.getD i (0,[])=x/\FY D (i+1) (y::l)
theorem Vw{D:List (Nat×List Nat)}: ∀ (l:List (Nat×List Nat)) (i:Nat),D.drop i=l→FY D i l
  |[],_,_=>trivial
  | [x],i,h=>by
    show D.getD i (0,[])=x
    rw[List.getD_eq_getElem?_getD,show D[i]? =(D.drop i)[0]? by simp,h];rfl
  | x::y::l,i,h=>by
    refine⟨?_,Vw (y::l) (i+1) ?_⟩
    · rw[List.getD_eq_getElem?_getD,show D[i]? =(D.drop i)[0]? by simp,h];rfl
    · rw[← List.drop_drop,h];rfl
theorem aJ{D l:List (Nat×List Nat)}(h:D=l):FY D 0 l:=Vw l 0 h
def DT:=af @decide_true @decide_false
section
variable {P:Program}
def awz:TV→Bool
  | .struct=>false
  | .array _ _ _=>false
  |_=>true
theorem lJ{t:TypeId}{v:TV}(hv:aX P t=some v)(hp:awz v=true): ∀ {xs:List AV} {off:Nat},part P xs t off=xs[off]? :=fun {xs off}=>by
  refine awv (λ_ _ h=> ?_) ?_
  · rw[hv]at h;cases h;cases hp
  · rw[hv];cases v <;> first|trivial|cases hp
theorem iK{s:TypeId}{i o:Nat}{ft:TypeId}{w:Nat}(hf:dR P s i=some (o,ft))(ht:bD P ft=w)(hw:(w=0)=False): ∀ {g:Id→Option ak} {id:Id} {off ext:Nat},nK P s g (.ptr id off ext) i=(g id).bind (yV id off ext o):=
  aeE hf (by rw[ht];exact hw)
theorem iL{s:TypeId}{i o:Nat}{ft:TypeId}{w:Nat}(hf:dR P s i=some (o,ft))(ht:bD P ft=w)(hw:(w=0)=False): ∀ {g:Id→Option ak} {xs:List AV} {off:Nat},nK P s g (.ay xs off) i=some (.ay xs (off+o)):=
  aeF hf (by rw[ht];exact hw)
theorem jT{t i o:Nat}{ft:TypeId}{w:Nat}(hf:dR P t i=some (o,ft))(ht:bD P ft=w):jv P t i=some (o,w):=by unfold jv;rw[hf];subst ht;rfl
theorem CW{t:TypeId}(hs:bD P t=1): ∀ {h:Heap} {id:Id} {off ext:Nat} {k:IntKind} {z:Int},jQ P t h (.ptr id off ext) (.v (.int k z))=(h.get id).bind (nG h id off ext (.v (.int k z))):=azt hs
theorem sbW{t:TypeId}(hs:bD P t=1): ∀ {h:Heap} {id:Id} {off ext:Nat} {z:Bool},jQ P t h (.ptr id off ext) (.v (.bool z))=(h.get id).bind (nG h id off ext (.v (.bool z))):=azs hs
theorem uC{t:TypeId}(hs:bD P t=1): ∀ {h:Heap} {id:Id} {off ext m:Nat} {xs:List AV},jQ P t h (.ptr id off ext) (.arr m xs)=(h.get id).bind (nG h id off ext (.arr m xs)):=azr hs
theorem uD{t:TypeId}(hs:bD P t=1): ∀ {h:Heap} {id j:Id} {off ext o m x:Nat},jQ P t h (.ptr id off ext) (.own j o m x)=(h.get id).bind (zU h id off ext (.own j o m x)):=azu hs
theorem uj{t el:TypeId}{sz by_:Nat}(hv:aX P t=some (.slice el sz by_)): ∀ {m:Nat} {xs:List AV} {i:Int} {g:Id->Option ak},0<=i->i<m->oJ P t g (.arr m xs) i=some (.ay xs (i.toNat*sz)):=art hv
theorem uk{t el:TypeId}{sz by_:Nat}(hv:aX P t=some (.slice el sz by_)): ∀ {id:Id} {off m ext:Nat} {i:Int} {g:Id->Option ak},oJ P t g (.own id off m ext) i=(g id).bind (Ld id off m ext sz i):=arv hv
theorem uo{t el:TypeId}{sz by_:Nat}(hv:aX P t=some (.slice el sz by_)): ∀ {x:AV},jh P .len #[t] [x]=(wF x).bind λn=>some (.v (.int .i64 n)):=atG hv
theorem yc{t:TypeId}{z:List AV}(hz:dU P t=some z): ∀ {C:bG} {cp:aC} {ci:bz} {lvl:Nat} {e:Env} {h:Heap} {d:Option Tmp},dw P C cp ci lvl e h d (.alloc t)=qo lvl (d.getD 0) h (some (.newbx z)):=afx hz
theorem yu{t:TypeId}{z:List AV}(hz:dU P t=some z): ∀ {C:bG} {cp:aC} {g:Id->Option ak} {e:Nat->Option AV},bZ P C cp e g (.alloc t)=some (.newbx z):=agM hz
theorem DU{t:TypeId}{z:List AV}(hz:dU P t=some z)(ht:aX P t=some .struct): ∀ {parts:List (Nat×AV)},wB P t parts=(mD (jv P t) z parts).bind λxs=>some (.agg xs):=ahS hz ht
theorem Gw{t el:TypeId}{sz by_:Nat}(hv:aX P t=some (.slice el sz by_)): ∀ {off m ext:Nat} {id:Id} {lo hi:Option AV} {g:Id->Option ak},lg P t g (.own id off m ext) lo hi=(g id).bind λb=>(iP lo 0).bind λl=>(iP hi m).bind λr=>Nq id off ext sz l r b:=ahl hv
theorem GG{t el:TypeId}{sz by_:Nat}(hv:aX P t=some (.slice el sz by_)): ∀ {m:Nat} {xs:List AV} {lo hi:Option AV} {g:Id->Option ak},lg P t g (.arr m xs) lo hi=(iP lo 0).bind λl=>(iP hi m).bind λr=>Np sz m xs l r:=ahk hv
theorem yh{t el:TypeId}{sz by_:Nat}{z:List AV}(hv:aX P t=some (.slice el sz by_))(hz:dU P el=some z)(hl:z.length=sz)(h0:0<sz): ∀ {lvl d:Nat} {h:Heap} {x y:AV},rY P lvl d t t h x y=(l7 h.get y).bind (yl lvl d sz by_ h x y (inner h.get y)):=agD hv hz hl h0
theorem tY{t el:TypeId}{sz by_:Nat}{z:List AV}(hv:aX P t=some (.slice el sz by_))(hz:dU P el=some z)(hl:z.length=sz)(h0:0<sz): ∀ {len:Nat} {parts:List (Nat×AV)},len*sz<=16777216->uO P t len parts=(mD (Rl sz) (List.replicate len z).flatten parts).bind (PO sz len):=λh=>aip hv hz h hl h0
end
abbrev TD:=List (Nat×List Nat)
def zz(l:List (List Nat)):TD:=l.map λx=>(0,x)
theorem Da{p q:Prop}(h:p)(k:p->q:=by intro h;simp only[FY,zz,List.map_cons,List.map_nil,Nat.zero_add,Nat.reduceAdd]at h;exact h):q:=k h
end Go.Av
