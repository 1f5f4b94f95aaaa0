/- A region with a store among the quiet operations of its head, in walks. Conditions: those that each names. -/
import Derived.Test.YteafmomjfnlkgaaGreatSl
set_option linter.unusedVariables false
set_option linter.defProp false
namespace Go.Av
section
variable (P:Program) (C:bn) (cp:af) (ci:bg) (lvl:Nat) (prot:List Id) (D:List (Nat×List Nat)) (n:Nat) (K:KK)
def su(all:List Oper)(m ps:Nat)(dr:Nat×List Nat)(fs:List Fr)(k i:Nat)(e:Env)(h:Heap):Option AV:=
  (oG P lvl (λ_=>none) m all ps k i (e,h)).bind λh'=>jH P C cp ci lvl prot D n K all (all.drop m) e h' dr fs
def Q9(all:List Oper)(m ps:Nat)(dr:Nat×List Nat)(fs:List Fr)(r:Env×Heap):Option AV:=su P C cp ci lvl prot D n K all m ps dr fs m 0 r.1 r.2
def sQ(k i:Nat)(all os:List Oper)(e:Env)(h:Heap)(m ps qs:Nat)(dr:Nat×List Nat)(fs:List Fr):Option AV:=
  (mG P C cp lvl (λ_=>none) all ps qs k i os e h).bind (Q9 P C cp ci lvl prot D n K all m ps dr fs)
def ahd(k i:Nat)(all os:List Oper)(d:Option Tmp)(e:Env)(m ps qs:Nat)(dr:Nat×List Nat)(fs:List Fr)(r:AV×Heap):Option AV:=
  sQ P C cp ci lvl prot D n K k i all os (dF e d r.1) r.2 m ps qs dr fs
def gl3(all:List Oper)(m ps:Nat)(dr:Nat×List Nat)(fs:List Fr)(k i:Nat)(e:Env)(h:Heap)(s:Id×ax):Option AV:=su P C cp ci lvl prot D n K all m ps dr fs k i e (h.set s.1 s.2)
def MM(all:List Oper)(m:Nat)(dr:Nat×List Nat)(fs:List Fr)(e:Env)(o2:Oper)(d:Nat)(y:AV)(r:AV×Heap):Option AV:=
  jH P C cp ci lvl prot D n K all (all.drop (m+1)) ((dF (e.drop [d]) o2.dst r.1).set d y) r.2 dr fs
def NP(all:List Oper)(m:Nat)(dr:Nat×List Nat)(fs:List Fr)(e:Env)(h:Heap)(o2:Oper)(d:Nat)(y:AV):Option AV:=
  if flat y=true then(bW P C cp ci lvl (e.drop [d]) h o2.dst o2.op).bind (MM P C cp ci lvl prot D n K all m dr fs e o2 d y)else none
def JY(all:List Oper)(m:Nat)(dr:Nat×List Nat)(fs:List Fr)(e:Env)(h:Heap)(o2:Oper):Op→Option Tmp→Option AV
  | .move (.tmp a),some d=>(e.get a).bind (NP P C cp ci lvl prot D n K all m dr fs e h o2 d)
  |_,_=>none
def Rf(all:List Oper)(m f:Nat)(dr:Nat×List Nat)(fs:List Fr)(r:Env×Heap):Option AV:=
  (all[f]?).bind λo=>(all[m]?).bind λo2=>JY P C cp ci lvl prot D n K all m dr fs r.1 r.2 o2 o.op o.dst
def gF(k:Nat)(all os:List Oper)(e:Env)(h:Heap)(m f:Nat)(dr:Nat×List Nat)(fs:List Fr):Option AV:=
  (jU P C cp ci lvl all k os e h).bind (Rf P C cp ci lvl prot D n K all m f dr fs)
def gFn(k:Nat)(all os:List Oper)(d:Option Tmp)(e:Env)(m f:Nat)(dr:Nat×List Nat)(fs:List Fr)(r:AV×Heap):Option AV:=
  gF P C cp ci lvl prot D n K k all os (dF e d r.1) r.2 m f dr fs
def uB(lvl m p:Nat)(all:List Oper)(t:TypeId)(id:Id)(off:Nat)(y:AV):ax→Option (Id×ax)
  | .bx true cells=>if y.cells.length=bi P t∧0<bi P t∧off+y.cells.length≤cells.length∧y.cells.all AV.one=true∧
      (id.1 != lvl || (List.range m).all λj=>((all[j]?).bind (·.dst)) != some id.2.1 || Region.waitsFor .any all.toArray p j)=true then some (id,.bx true (putCells cells off y.cells))else none
  |_=>none
def YN(lvl m p:Nat)(all:List Oper)(t:TypeId)(id:Id)(off xt:Nat)(y:AV)(b:ax):Option (Id×ax):=Dw P lvl (λ_=>none) m p all true t id off xt y b
def RN(lvl m p:Nat)(all:List Oper)(t:TypeId)(h:Heap)(q y:AV):Option (Id×ax):=match q with
  | .ptr id off 0=>(h.get id).bind (uB P lvl m p all t id off y)
  | .ptr id off (xt+1)=>(h.get id).bind (YN P lvl m p all t id off xt y)
  |_=>none
end
section
variable {P:Program} {C:bn} {cp:af} {ci:bg} {lvl:Nat} {prot:List Id} {D:List (Nat×List Nat)} {n:Nat} {K:KK}
variable {e:Env} {h:Heap} {fs:List Fr} {all os:List Oper} {dr:Nat×List Nat} {m p k i ps qs:Nat}
theorem aMg{ops:List Oper}{ds:Nat×List Nat}:((wz P C cp ci lvl (fun _=>none) ops m ps qs e h).bind (oJ lvl prot ds)).bind (fun r=>ret P C cp ci lvl prot D n K fs r.1 r.2.1 r.2.2)=sQ P C cp ci lvl prot D n K m 0 ops ops e h m ps qs ds fs:=by
  unfold wz sQ
  cases mG P C cp lvl (λ_=>none) ops ps qs m 0 ops e h with
  |none=>rfl
  | some r=>
    simp only[ob_some,Q9,su]
    cases oG P lvl (λ_=>none) m ops ps m 0 (r.1,r.2)with
    |none=>rfl
    | some h1=>
      simp only[ob_some,jH]
      cases iD P C cp ci lvl ops (ops.drop m) r.1 h1 with
      |none=>rfl
      | some r2=>
        simp only[ob_some,oJ,fK]
        cases post lvl prot ds.2 (r2.1.drop ds.2) r2.2 <;> rfl
theorem aCb{ops:List Oper}{k:Nat}(hk:2000000≤k)(hw:(k - 2000000) / 1461501637330902918203684832716283019655932542976 / 1208925819614629174706176=0):qh P C cp ci lvl ops k e h=wz P C cp ci lvl (fun _=>none) ops (qY k) (xB k) (xg k) e h:=by
  unfold qh
  have h0: ¬ k<1000:=by omega
  have h1: ¬ k<1000000:=by omega
  have h2: ¬ k<2000000:=by omega
  rw[if_neg h0,if_neg h1,if_neg h2]
  have:AP k h=λ_=>none:=if_pos hw
  rw[this]
theorem aqn{i:Nat}{ops:List Oper}(hk:2000000≤(D.getD (2*i) (0,[])).1)(hw:((D.getD (2*i) (0,[])).1 - 2000000) / 1461501637330902918203684832716283019655932542976 / 1208925819614629174706176=0):go P C cp ci lvl prot D n K (.region i ⟨ops⟩ true) e h fs=
    sQ P C cp ci lvl prot D n K (qY (D.getD (2*i) (0,[])).1) 0 ops ops e h (qY (D.getD (2*i) (0,[])).1) (xB (D.getD (2*i) (0,[])).1) (xg (D.getD (2*i) (0,[])).1) (D.getD (2*i) (0,[])) fs:=by
  unfold go
  rw[IB,aCb hk hw,aMg]
theorem aoj {f:Nat}{ops:List Oper}{ds:Nat×List Nat}:((Dq P C cp ci lvl ops m f e h).bind (oJ lvl prot ds)).bind (fun r=>ret P C cp ci lvl prot D n K fs r.1 r.2.1 r.2.2)=gF P C cp ci lvl prot D n K m ops (ops.take m) e h m f ds fs:=by
  unfold Dq gF
  cases jU P C cp ci lvl ops m (ops.take m) e h with
  |none=>rfl
  | some r=>
    simp only[ob_some,Rf]
    cases ops[f]? with
    |none=>rfl
    | some o=>
      simp only[ob_some]
      cases ops[m]? with
      |none=>rfl
      | some o2 =>
        simp only[ob_some]
        have key : ∀ (op:Op) (dd:Option Tmp),((UC P C cp ci lvl ops m r o2 op dd).bind (oJ lvl prot ds)).bind (fun r=>ret P C cp ci lvl prot D n K fs r.1 r.2.1 r.2.2)=JY P C cp ci lvl prot D n K ops m ds fs r.1 r.2 o2 op dd:=fun op dd=>by
          cases op <;> try rfl
          rename_i x
          cases x <;> try rfl
          rename_i a
          cases dd <;> try rfl
          rename_i d
          show(((r.1.get a).bind λy=>Ld P C cp ci lvl ops m d y r o2).bind _).bind _=(r.1.get a).bind _
          cases r.1.get a with
          |none=>rfl
          | some y=>
            simp only[ob_some]
            unfold Ld NP
            by_cases hf:flat y=true
            · rw [if_pos hf,if_pos hf]
              cases bW P C cp ci lvl (r.1.drop [d]) r.2 o2.dst o2.op with
              |none=>rfl
              | some z=>
                simp only[ob_some,MM,jH]
                cases iD P C cp ci lvl ops (ops.drop (m+1)) ((dF (r.1.drop [d]) o2.dst z.1).set d y) z.2 with
                |none=>rfl
                | some r2=>
                  simp only[ob_some,oJ,fK]
                  cases post lvl prot ds.2 (r2.1.drop ds.2) r2.2 <;> rfl
            · rw[if_neg hf,if_neg hf];rfl
        exact key o.op o.dst
theorem aAv{ops:List Oper}{k:Nat}(hk:1000≤k)(hk2:k<1000000):qh P C cp ci lvl ops k e h=Dq P C cp ci lvl ops (k%1000) (k / 1000 - 1) e h:=by
  unfold qh
  have h0: ¬ k<1000:=by omega
  rw[if_neg h0,if_pos hk2]
theorem axV{i:Nat}{ops:List Oper}(hk:1000≤(D.getD (2*i) (0,[])).1)(hk2:(D.getD (2*i) (0,[])).1<1000000):go P C cp ci lvl prot D n K (.region i ⟨ops⟩ true) e h fs=
    gF P C cp ci lvl prot D n K ((D.getD (2*i) (0,[])).1%1000) ops (ops.take ((D.getD (2*i) (0,[])).1%1000)) e h ((D.getD (2*i) (0,[])).1%1000) ((D.getD (2*i) (0,[])).1 / 1000 - 1) (D.getD (2*i) (0,[])) fs:=by
  unfold go
  rw[IB,aAv hk hk2,aoj]
theorem atW{f:Nat}:gF P C cp ci lvl prot D n K 0 all [] e h m f dr fs=Rf P C cp ci lvl prot D n K all m f dr fs (e,h):=rfl
theorem aHU{f:Nat}{d op ty pos after}:gF P C cp ci lvl prot D n K (k+1) all (⟨d,op,ty,pos,after,none⟩::os) e h m f dr fs=
    (qo lvl (d.getD 0) h (bF P C cp e.get h.get op)).bind (gFn P C cp ci lvl prot D n K k all os d e m f dr fs):=by
  unfold gF
  simp only[jU]
  show((bF P C cp e.get h.get op).bind λt=>_).bind _=_
  cases bF P C cp e.get h.get op with
  |none=>rfl
  | some t=>
    simp only[qo,ob_some]
    cases aT lvl (d.getD 0) 4 t (0,h) <;> rfl
theorem aHK{f:Nat}{d y}:gFn P C cp ci lvl prot D n K k all os d e m f dr fs (y,h)=gF P C cp ci lvl prot D n K k all os (dF e d y) h m f dr fs:=rfl
theorem aG1{f:Nat}:Rf P C cp ci lvl prot D n K all m f dr fs (e,h)=(all[f]?).bind λo=>(all[m]?).bind λo2=>JY P C cp ci lvl prot D n K all m dr fs e h o2 o.op o.dst:=rfl
theorem avE{a d:Nat}{o2:Oper}:JY P C cp ci lvl prot D n K all m dr fs e h o2 (.move (.tmp a)) (some d)=(e.get a).bind (NP P C cp ci lvl prot D n K all m dr fs e h o2 d):=rfl
theorem awH{d:Nat}{o2:Oper}{y:AV}(hy:flat y=true):NP P C cp ci lvl prot D n K all m dr fs e h o2 d y=(bW P C cp ci lvl (e.drop [d]) h o2.dst o2.op).bind (MM P C cp ci lvl prot D n K all m dr fs e o2 d y):=if_pos hy
theorem aKU{d:Nat}{o2:Oper}{y z:AV}:MM P C cp ci lvl prot D n K all m dr fs e o2 d y (z,h)=jH P C cp ci lvl prot D n K all (all.drop (m+1)) ((dF (e.drop [d]) o2.dst z).set d y) h dr fs:=rfl
theorem aC1{k:Nat}:qY k=(k - 2000000) / 1461501637330902918203684832716283019655932542976%1208925819614629174706176:=rfl
theorem aqF{k:Nat}:xB k=(k - 2000000) / 1208925819614629174706176%1208925819614629174706176:=rfl
theorem aqf{k:Nat}:xg k=(k - 2000000)%1208925819614629174706176:=rfl
theorem aAc:sQ P C cp ci lvl prot D n K 0 i all os e h m ps qs dr fs=Q9 P C cp ci lvl prot D n K all m ps dr fs (e,h):=by cases os <;> rfl
theorem aA3{op ty pos after gd}(hi:ps.testBit i=true):sQ P C cp ci lvl prot D n K (k+1) i all (⟨none,op,ty,pos,after,gd⟩::os) e h m ps qs dr fs=sQ P C cp ci lvl prot D n K k (i+1) all os e h m ps qs dr fs:=by
  unfold sQ
  simp only[mG]
  rw[if_pos hi]
  rfl
theorem aoX{d op ty pos after}(hi:ps.testBit i=false):sQ P C cp ci lvl prot D n K (k+1) i all (⟨d,op,ty,pos,after,none⟩::os) e h m ps qs dr fs=
    (qo lvl (d.getD 0) h (ni P C cp (qs.testBit i) (λ_=>none) e.get h op)).bind (ahd P C cp ci lvl prot D n K k (i+1) all os d e m ps qs dr fs):=by
  unfold sQ
  simp only[mG]
  rw[if_neg (by rw[hi];decide)]
  show((ni P C cp (qs.testBit i) (λ_=>none) e.get h op).bind λt=>_).bind _=_
  cases ni P C cp (qs.testBit i) (λ_=>none) e.get h op with
  |none=>rfl
  | some t=>
    simp only[qo,ob_some]
    cases aT lvl (d.getD 0) 4 t (0,h) <;> rfl
theorem aJZ{d y}:ahd P C cp ci lvl prot D n K k i all os d e m ps qs dr fs (y,h)=sQ P C cp ci lvl prot D n K k i all os (dF e d y) h m ps qs dr fs:=rfl
theorem aHw{q:Bool}{e:Nat->Option AV}{o:Op}(hq:q=true):ni P C cp q (λ_=>none) e h o=D7 (bF P C cp e (λ_=>none) o) (yl P e h o):=by subst hq;rfl
theorem aqM{q:Bool}{e:Nat->Option AV}{o:Op}(hq:q=false):ni P C cp q (λ_=>none) e h o=bF P C cp e h.get o:=by subst hq;rfl
theorem atp{t:AV}{y:Option AV}:D7 (some t) y=some t:=rfl
theorem aLK{y:Option AV}:D7 none y=y:=rfl
theorem aGa{e:Nat->Option AV}{x:Operand}:yl P e h (.nilCheck x)=(az e x).bind (NY h):=rfl
theorem apY{e:Nat->Option AV}{x:Operand}{s:TypeId}{i:Nat}:yl P e h (.fieldAddr s x i)=(az e x).bind (Qx P s i h):=rfl
theorem auN{id:Id}{off:Nat}:NY h (.ptr id off 0)=(h.get id).bind (JA id off):=rfl
theorem azs{id:Id}{off:Nat}{rw:Bool}{cells:List AV}:JA id off (.bx rw cells)=some (.ptr id off 0):=rfl
theorem axQ{s:TypeId}{i:Nat}{id:Id}{off:Nat}:Qx P s i h (.ptr id off 0)=(h.get id).bind (Gp P s i id off):=rfl
theorem apF{s:TypeId}{i o:Nat}{t:TypeId}{id:Id}{off:Nat}{rw:Bool}{cells:List AV}(hf:dh P s i=some (o,t))(ht:(bi P t=0)=False):Gp P s i id off (.bx rw cells)=some (.ptr id (off+o) 0):=by
  unfold Gp
  rw[hf]
  show(if bi P t=0 then none else _)=_
  rw[if_neg (by rw[ht];exact λhh=>hh)]
theorem aAX:Q9 P C cp ci lvl prot D n K all m ps dr fs (e,h)=su P C cp ci lvl prot D n K all m ps dr fs m 0 e h:=rfl
theorem aDh{id:Id}{b:ax}:gl3 P C cp ci lvl prot D n K all m ps dr fs k i e h (id,b)=su P C cp ci lvl prot D n K all m ps dr fs k i e (h.set id b):=rfl
theorem aKi:su P C cp ci lvl prot D n K all m ps dr fs 0 i e h=jH P C cp ci lvl prot D n K all (all.drop m) e h dr fs:=rfl
theorem aAM(hi:ps.testBit i=false):su P C cp ci lvl prot D n K all m ps dr fs (k+1) i e h=su P C cp ci lvl prot D n K all m ps dr fs k (i+1) e h:=by
  unfold su
  simp only[oG]
  rw[if_neg (by rw[hi];decide)]
theorem aDR(hi:ps.testBit i=true):su P C cp ci lvl prot D n K all m ps dr fs (k+1) i e h=(all[i]?).bind fun o=>(nH P lvl (fun _=>none) m i all (e,h) o).bind (gl3 P C cp ci lvl prot D n K all m ps dr fs k (i+1) e h):=by
  unfold su
  simp only[oG]
  rw[if_pos hi]
  cases all[i]? with
  |none=>rfl
  | some o=>
    simp only[ob_some]
    cases nH P lvl (λ_=>none) m i all (e,h) o <;> rfl
def lJ(all:List Oper)(j i:Nat):Bool:=match all[j]? with
  |some o=>o.after.toList.any λe=>Region.binds .any e&&e.on==i
  |none=>false
theorem Ht:lJ all k i=Region.waitsFor .any all.toArray k i:=by
  unfold lJ Region.waitsFor
  simp only[List.getElem?_toArray]
  cases all[k]? with
  |none=>rfl
  |some o=>simp only[Array.any_toList]
theorem aGX{t:TypeId}{a x:Operand}{ty pos after}:nH P lvl (fun _=>none) m p all (e,h) ⟨none,.store t a x,ty,pos,after,none⟩=(az e.get a).bind fun q=>(az e.get x).bind (RN P lvl m p all t h q):=by
  show((az e.get a).bind λq=>(az e.get x).bind λy=>_)=_
  congr 1
  funext q
  congr 1
  funext y
  cases q <;> try rfl
  rename_i id off ext
  cases ext with
  | succ x=>
    show(h.get id).bind _=(h.get id).bind _
    congr 1
  | zero=>
    show((h.get id).bind λb=>_)=(h.get id).bind _
    congr 1
    funext b
    cases b with
    |sl=>rfl
    |bx rw cells=>cases rw <;> simp[uB]
theorem aw7{t:TypeId}{id:Id}{off:Nat}{y:AV}:RN P lvl m p all t h (.ptr id off 0) y=(h.get id).bind (uB P lvl m p all t id off y):=rfl
theorem arx{t:TypeId}{id:Id}{off:Nat}{k:IntKind}{z:Int}{cells:List AV}(hs:bi P t=1)(ho:off<cells.length)
    (hc:(id.1 != lvl || (List.range m).all λj=>((all[j]?).bind (·.dst)) != some id.2.1 || lJ all p j)=true):uB P lvl m p all t id off (.v (.int k z)) (.bx true cells)=some (id,.bx true (putCells cells off [.v (.int k z)])):=by
  simp only[Ht]at hc
  show(if(AV.v (.int k z)).cells.length=bi P t/\0<bi P t/\off+(AV.v (.int k z)).cells.length<=cells.length/\(AV.v (.int k z)).cells.all AV.one=true/\_ then _ else none)=_
  rw[if_pos ⟨by rw[hs];rfl,by omega,by show off+1<=_;omega,rfl,hc⟩]
  rfl
def Zt(P:Program)(lvl m p:Nat)(all:List Oper)(t:TypeId)(id:Id)(off ext:Nat)(k:IntKind)(z:Int)(b:ax):Option (Id×ax):=YN P lvl m p all t id off (ext - 1) (.v (.int k z)) b
theorem aLO{t:TypeId}{id:Id}{off ext:Nat}{k:IntKind}{z:Int}(h0:0<ext):RN P lvl m p all t h (.ptr id off ext) (.v (.int k z))=(h.get id).bind (Zt P lvl m p all t id off ext k z):=by
  cases ext with
  |zero=>omega
  |succ x=>rfl
theorem auI{t:TypeId}{id:Id}{off ext sz:Nat}{k:IntKind}{z:Int}{cells:List AV}(h0:0<ext)(hs:bi P t=1)(ho:off<cells.length)
    (hc:(id.1 != lvl || (List.range m).all λj=>((all[j]?).bind (·.dst)) != some id.2.1 || lJ all p j)=true):Zt P lvl m p all t id off ext k z (.sl true true sz ext cells)=some (id,.sl true true sz ext (putCells cells off [.v (.int k z)])):=by
  simp only[Ht]at hc
  unfold Zt YN Dw
  simp only[]
  rw[if_pos ⟨trivial,rfl,by omega,hs,by omega,hc⟩]
def Vt(w lvl m p:Nat)(all:List Oper)(id:Id)(off:Nat)(ys cells:List AV):Option (Id×ax):=
  if ys.length=w/\0<w/\off+ys.length<=cells.length/\ys.all AV.one=true/\(id.1 != lvl || (List.range m).all λj=>((all[j]?).bind (·.dst)) != some id.2.1 || lJ all p j)=true then some (id,.bx true (putCells cells off ys))else none
theorem aEx{t:TypeId}{id:Id}{off:Nat}{ys cells:List AV}:uB P lvl m p all t id off (.agg ys) (.bx true cells)=Vt (bi P t) lvl m p all id off ys cells:=by
  unfold Vt
  simp only[Ht]
  rfl
theorem aFF{w:Nat}{id:Id}{off:Nat}{ys cells:List AV}(hs:ys.length=w)(h0:0<w)(ho:off+ys.length≤cells.length)(h1:ys.all AV.one=true)
    (hc:(id.1 != lvl || (List.range m).all λj=>((all[j]?).bind (·.dst)) != some id.2.1 || lJ all p j)=true):Vt w lvl m p all id off ys cells=some (id,.bx true (putCells cells off ys)):=if_pos ⟨hs,h0,ho,h1,hc⟩
def RLO:=And.intro @aqn<|And.intro @axV<|And.intro @atW<|And.intro @aHU<|And.intro @aHK<|And.intro @aG1<|And.intro @avE<|And.intro @awH<|And.intro @aKU<|And.intro @aC1<|And.intro @aqF<|And.intro @aqf<|And.intro @aAc<|And.intro @aA3<|And.intro @aoX<|And.intro @aJZ<|And.intro @aHw<|And.intro @aqM<|And.intro @atp<|And.intro @aLK<|And.intro @aGa<|And.intro @apY<|And.intro @auN<|And.intro @azs<|And.intro @axQ<|And.intro @apF<|And.intro @aAX<|And.intro @aDh<|And.intro @aKi<|And.intro @aAM<|And.intro @aDR<|And.intro @aGX<|And.intro @aw7<|And.intro @aLO<|And.intro @auI<|And.intro @arx<|And.intro @aEx @aFF
end
section
variable (P:Program) (C:bn) (cp:af) (ci:bg) (lvl:Nat) (prot:List Id) (D:List (Nat×List Nat)) (n:Nat) (K:KK) (G:Id->Option ax)
def sV(all:List Oper)(m ps:Nat)(dr:Nat×List Nat)(fs:List Fr)(k i:Nat)(e:Env)(h:Heap):Option AV:=
  (oG P lvl G m all ps k i (e,h)).bind λh'=>jH P C cp ci lvl prot D n K all (all.drop m) e h' dr fs
def Rx(all:List Oper)(m ps:Nat)(dr:Nat×List Nat)(fs:List Fr)(r:Env×Heap):Option AV:=sV P C cp ci lvl prot D n K G all m ps dr fs m 0 r.1 r.2
def qH(k i:Nat)(all os:List Oper)(e:Env)(h:Heap)(m ps qs:Nat)(dr:Nat×List Nat)(fs:List Fr):Option AV:=
  (mG P C cp lvl G all ps qs k i os e h).bind (Rx P C cp ci lvl prot D n K G all m ps dr fs)
def gnX(k i:Nat)(all os:List Oper)(d:Option Tmp)(e:Env)(m ps qs:Nat)(dr:Nat×List Nat)(fs:List Fr)(r:AV×Heap):Option AV:=
  qH P C cp ci lvl prot D n K G k i all os (dF e d r.1) r.2 m ps qs dr fs
def gX3(all:List Oper)(m ps:Nat)(dr:Nat×List Nat)(fs:List Fr)(k i:Nat)(e:Env)(h:Heap)(s:Id×ax):Option AV:=sV P C cp ci lvl prot D n K G all m ps dr fs k i e (h.set s.1 s.2)
def laT(m p:Nat)(all:List Oper)(e:Env)(h:Heap)(d:Tmp)(a b:Operand):TV→Option (Id×ax)
  | .slice el esz by_=>(dG P el).bind λz=>(az e.get a).bind λx=>(az e.get b).bind λy=>EJ lvl G m p all h by_ esz (decide (z.length=esz)&&decide (0<esz)) (e.get d) x y
  |_=>none
end
def WG(lvl:Nat)(G:Id→Option ax)(m p:Nat)(all:List Oper)(e:Env)(h:Heap)(d:Tmp)(a b:Operand)(esz by_:Nat)(z:List AV):Option (Id×ax):=
  (az e.get a).bind λx=>(az e.get b).bind λy=>EJ lvl G m p all h by_ esz (decide (z.length=esz)&&decide (0<esz)) (e.get d) x y
def laX(lvl:Nat)(G:Id→Option ax)(m p:Nat)(all:List Oper)(e:Env)(h:Heap)(d:Tmp)(b:Operand)(esz by_:Nat)(x:AV):Option (Id×ax):=
  (az e.get b).bind λy=>EJ lvl G m p all h by_ esz true (e.get d) x y
def laY(lvl:Nat)(G:Id->Option ax)(m p:Nat)(all:List Oper)(e:Env)(h:Heap)(d:Tmp)(esz by_:Nat)(x y:AV):Option (Id×ax):=EJ lvl G m p all h by_ esz true (e.get d) x y
def laB(lvl:Nat)(G:Id→Option ax)(m p:Nat)(all:List Oper)(e:Env)(h:Heap)(d:Tmp)(esz by_:Nat)(id:Id)(k ext:Nat)(id2:Id)(off2 mm ext2:Nat)(b:ax):Option (Id×ax):=
  (h.get id2).bind λb2=>D6 by_ esz (true&&(G id).isNone&&rU lvl m p all id&&rU lvl m p all id2) id k ext mm ext2 off2 (e.get d) b b2
def xH(lvl:Nat)(G:Id→Option ax)(m p:Nat)(all:List Oper)(e:Env)(d:Tmp)(esz by_:Nat)(id:Id)(k ext:Nat)(id2:Id)(off2 mm ext2:Nat)(b b2:ax):Option (Id×ax):=
  D6 by_ esz (true&&(G id).isNone&&rU lvl m p all id&&rU lvl m p all id2) id k ext mm ext2 off2 (e.get d) b b2
def ly2:Option AV→Option AV→AV
  |some x,some y=>Y2 x y
  |_,_=> .v undef
section
variable {P:Program} {C:bn} {cp:af} {ci:bg} {lvl:Nat} {prot:List Id} {D:List (Nat×List Nat)} {n:Nat} {K:KK} {G:Id->Option ax}
variable {e:Env} {h:Heap} {fs:List Fr} {all os:List Oper} {dr:Nat×List Nat} {m p k i ps qs:Nat}
theorem ahf{ops:List Oper}{ds:Nat×List Nat}:((wz P C cp ci lvl G ops m ps qs e h).bind (oJ lvl prot ds)).bind (fun r=>ret P C cp ci lvl prot D n K fs r.1 r.2.1 r.2.2)=qH P C cp ci lvl prot D n K G m 0 ops ops e h m ps qs ds fs:=by
  unfold wz qH
  cases mG P C cp lvl G ops ps qs m 0 ops e h with
  |none=>rfl
  | some r=>
    simp only[ob_some,Rx,sV]
    cases oG P lvl G m ops ps m 0 (r.1,r.2)with
    |none=>rfl
    | some h1=>
      simp only[ob_some,jH]
      cases iD P C cp ci lvl ops (ops.drop m) r.1 h1 with
      |none=>rfl
      | some r2=>
        simp only[ob_some,oJ,fK]
        cases post lvl prot ds.2 (r2.1.drop ds.2) r2.2 <;> rfl
theorem apd{ops:List Oper}{k:Nat}(hk:2000000≤k)(hw:(k - 2000000) / 1461501637330902918203684832716283019655932542976 / 1208925819614629174706176=2):qh P C cp ci lvl ops k e h=wz P C cp ci lvl (wP h) ops (qY k) (xB k) (xg k) e h:=by
  unfold qh
  have h0: ¬ k<1000:=by omega
  have h1: ¬ k<1000000:=by omega
  have h2: ¬ k<2000000:=by omega
  rw[if_neg h0,if_neg h1,if_neg h2]
  have:AP k h=wP h:=by
    unfold AP
    rw[if_neg (by omega),if_neg (by omega)]
  rw[this]
theorem aLP{i:Nat}{ops:List Oper}(hk:2000000≤(D.getD (2*i) (0,[])).1)(hw:((D.getD (2*i) (0,[])).1 - 2000000) / 1461501637330902918203684832716283019655932542976 / 1208925819614629174706176=2):go P C cp ci lvl prot D n K (.region i ⟨ops⟩ true) e h fs=
    qH P C cp ci lvl prot D n K (wP h) (qY (D.getD (2*i) (0,[])).1) 0 ops ops e h (qY (D.getD (2*i) (0,[])).1) (xB (D.getD (2*i) (0,[])).1) (xg (D.getD (2*i) (0,[])).1) (D.getD (2*i) (0,[])) fs:=by
  unfold go
  rw[IB,apd hk hw,ahf]
theorem aLs:qH P C cp ci lvl prot D n K G 0 i all os e h m ps qs dr fs=Rx P C cp ci lvl prot D n K G all m ps dr fs (e,h):=by cases os <;> rfl
theorem aG4{d op ty pos after gd}(hi:ps.testBit i=true):qH P C cp ci lvl prot D n K G (k+1) i all (⟨d,op,ty,pos,after,gd⟩::os) e h m ps qs dr fs=qH P C cp ci lvl prot D n K G k (i+1) all os (dF e d (aaP e.get op)) h m ps qs dr fs:=by
  unfold qH
  simp only[mG]
  rw[if_pos hi]
theorem ayX{d op ty pos after}(hi:ps.testBit i=false):qH P C cp ci lvl prot D n K G (k+1) i all (⟨d,op,ty,pos,after,none⟩::os) e h m ps qs dr fs=
    (qo lvl (d.getD 0) h (ni P C cp (qs.testBit i) G e.get h op)).bind (gnX P C cp ci lvl prot D n K G k (i+1) all os d e m ps qs dr fs):=by
  unfold qH
  simp only[mG]
  rw[if_neg (by rw[hi];decide)]
  show((ni P C cp (qs.testBit i) G e.get h op).bind λt=>_).bind _=_
  cases ni P C cp (qs.testBit i) G e.get h op with
  |none=>rfl
  | some t=>
    simp only[qo,ob_some]
    cases aT lvl (d.getD 0) 4 t (0,h) <;> rfl
theorem aAF{d y}:gnX P C cp ci lvl prot D n K G k i all os d e m ps qs dr fs (y,h)=qH P C cp ci lvl prot D n K G k i all os (dF e d y) h m ps qs dr fs:=rfl
theorem aMn{q:Bool}{h0:Heap}{e:Nat->Option AV}{o:Op}(hq:q=true):ni P C cp q (wP h0) e h o=D7 (bF P C cp e (wP h0) o) (yl P e h o):=by subst hq;rfl
theorem arI{q:Bool}{h0:Heap}{e:Nat->Option AV}{o:Op}(hq:q=false):ni P C cp q (wP h0) e h o=bF P C cp e h.get o:=by subst hq;rfl
theorem aLn{id:Id}:wP h id=(h.get id).bind bxO:=rfl
theorem apS{rw:Bool}{cells:List AV}:bxO (.bx rw cells)=some (.bx rw cells):=rfl
theorem avG{e:Nat→Option AV}{a b:Operand}{ts:Array TypeId}:aaP e (.call ⟨.builtin .append,⟨[a,b]⟩,ts⟩)=ly2 (az e a) (az e b):=by
  show(match az e a,az e b with|some x,some y=>Y2 x y|_,_=>AV.v undef)=_
  cases az e a <;> cases az e b <;> rfl
theorem aqS{id id2:Id}{k x o mm z:Nat}:ly2 (some (.own id 0 k x)) (some (.own id2 o mm z))= .own id 0 (k+mm) (k+mm):=rfl
theorem aF5:Rx P C cp ci lvl prot D n K G all m ps dr fs (e,h)=sV P C cp ci lvl prot D n K G all m ps dr fs m 0 e h:=rfl
theorem anR{id:Id}{b:ax}:gX3 P C cp ci lvl prot D n K G all m ps dr fs k i e h (id,b)=sV P C cp ci lvl prot D n K G all m ps dr fs k i e (h.set id b):=rfl
theorem avF:sV P C cp ci lvl prot D n K G all m ps dr fs 0 i e h=jH P C cp ci lvl prot D n K all (all.drop m) e h dr fs:=rfl
theorem aFm(hi:ps.testBit i=false):sV P C cp ci lvl prot D n K G all m ps dr fs (k+1) i e h=sV P C cp ci lvl prot D n K G all m ps dr fs k (i+1) e h:=by
  unfold sV
  simp only[oG]
  rw[if_neg (by rw[hi];decide)]
theorem aAz(hi:ps.testBit i=true):sV P C cp ci lvl prot D n K G all m ps dr fs (k+1) i e h=(all[i]?).bind fun o=>(nH P lvl G m i all (e,h) o).bind (gX3 P C cp ci lvl prot D n K G all m ps dr fs k (i+1) e h):=by
  unfold sV
  simp only[oG]
  rw[if_pos hi]
  cases all[i]? with
  |none=>rfl
  | some o=>
    simp only[ob_some]
    cases nH P lvl G m i all (e,h) o <;> rfl
theorem aLE{d:Tmp}{a b:Operand}{t:TypeId}{ty pos after}:nH P lvl G m p all (e,h) ⟨some d,.call ⟨.builtin .append,⟨[a,b]⟩,#[t,t]⟩,ty,pos,after,none⟩=(aP P t).bind (laT P lvl G m p all e h d a b):=by
  show(aP P t).bind _=_
  cases aP P t with
  |none=>rfl
  | some tv=>
    show Ju P lvl G m p all (e,h) _ a b t t tv=_
    cases tv <;> try rfl
    simp only[Ju,decide_true,Bool.true_and,Option.isNone_none,Option.isSome_some,Bool.and_true]
    rfl
theorem az8{d:Tmp}{a b:Operand}{el:TypeId}{esz by_:Nat}:laT P lvl G m p all e h d a b (.slice el esz by_)=(dG P el).bind (WG lvl G m p all e h d a b esz by_):=rfl
theorem aqI{d:Tmp}{a b:Operand}{esz by_:Nat}{z:List AV}(hl:z.length=esz)(h0:0<esz):WG lvl G m p all e h d a b esz by_ z=(az e.get a).bind (laX lvl G m p all e h d b esz by_):=by
  unfold WG
  simp only[hl,h0,decide_true,Bool.and_self]
  rfl
theorem apX{d:Tmp}{b:Operand}{esz by_:Nat}{x:AV}:laX lvl G m p all e h d b esz by_ x=(az e.get b).bind (laY lvl G m p all e h d esz by_ x):=rfl
theorem aC9{d:Tmp}{esz by_:Nat}{id id2:Id}{k ext off2 mm ext2:Nat}:laY lvl G m p all e h d esz by_ (.own id 0 k ext) (.own id2 off2 mm ext2)=(h.get id).bind (laB lvl G m p all e h d esz by_ id k ext id2 off2 mm ext2):=rfl
theorem axA{d:Tmp}{esz by_:Nat}{id id2:Id}{k ext off2 mm ext2:Nat}{b:ax}:laB lvl G m p all e h d esz by_ id k ext id2 off2 mm ext2 b=(h.get id2).bind (xH lvl G m p all e d esz by_ id k ext id2 off2 mm ext2 b):=rfl
theorem G8{id:Id}{k:Nat}:Cc id k (some (.own id 0 k k))=true:=by simp[Cc]
theorem aCn{d:Tmp}{by_:Nat}{id id2:Id}{l:List Int}{z:Int}{kk:IntKind}{kx:Nat}(hx:kx=l.length)(hG:(G id).isNone=true)(hy:e.get d=some (.own id 0 (kx+1) (kx+1)))(h3:kx+1≤140737488355328)(h4:(kx+1)*by_≤140737488355328)
    (hc:(id.1 != lvl || (List.range m).all λj=>((all[j]?).bind (·.dst)) != some id.2.1 || lJ all p j)=true) (hc2:(id2.1 != lvl || (List.range m).all λj=>((all[j]?).bind (·.dst)) != some id2.2.1 || lJ all p j)=true) {rw2:Bool}:
    xH lvl G m p all e d 1 by_ id kx kx id2 0 1 1 (.sl true true 1 kx (lm (ik kk) l)) (.sl true rw2 1 1 [.v (.int kk z)])=some (id,.sl true true 1 (kx+1) (lm (ik kk) (l++[z]))):=by
  simp only[Ht]at hc hc2
  have w1:rU lvl m p all id=true:=hc
  have w2:rU lvl m p all id2=true:=hc2
  unfold xH D6
  simp only[hG,w1,w2,hy,G8,Bool.and_self]
  have hcut:cut [AV.v (.int kk z)] 0 1 1 1=[AV.v (.int kk z)]:=rfl
  rw[hcut,if_pos ⟨trivial,trivial,trivial,trivial,trivial,trivial,rfl,h3,h4,rfl⟩]
  have e1:lm (ik kk) l++[AV.v (.int kk z)]=lm (ik kk) (l++[z]):=by simp[lm,ik]
  rw[e1]
def RLX:=And.intro @aLP<|And.intro @aLs<|And.intro @aG4<|And.intro @ayX<|And.intro @aAF<|And.intro @aMn<|And.intro @arI<|And.intro @aLn<|And.intro @apS<|And.intro @avG<|And.intro @aqS<|And.intro @aF5<|And.intro @anR<|And.intro @avF<|And.intro @aFm<|And.intro @aAz<|And.intro @aLE<|And.intro @az8<|And.intro @aqI<|And.intro @apX<|And.intro @aC9<|And.intro @axA<| @aCn
end
def xu(h:Heap)(id:Id):Option ax:=h.get id
def ET(P:Program)(lvl m p:Nat)(all:List Oper)(t:TypeId)(id:Id)(off:Nat)(y:AV)(g:Option ax)(b:ax):Option (Id×ax):=if g.isNone=true then uB P lvl m p all t id off y b else none
def aj8(P:Program)(lvl m p:Nat)(all:List Oper)(t:TypeId)(h:Heap)(G:Id→Option ax)(q y:AV):Option (Id×ax):=match q with
  | .ptr id off 0=>(h.get id).bind (ET P lvl m p all t id off y (G id))
  | .ptr id off (xt+1)=>(h.get id).bind (Dw P lvl G m p all true t id off xt y)
  |_=>none
section
variable {P:Program} {C:bn} {cp:af} {ci:bg} {lvl:Nat} {prot:List Id} {D:List (Nat×List Nat)} {n:Nat} {K:KK} {G:Id->Option ax}
variable {e:Env} {h:Heap} {fs:List Fr} {all os:List Oper} {dr:Nat×List Nat} {m p k i ps qs:Nat}
theorem auL{ops:List Oper}{k:Nat}(hk:2000000≤k)(hw:(k - 2000000) / 1461501637330902918203684832716283019655932542976 / 1208925819614629174706176=1):qh P C cp ci lvl ops k e h=wz P C cp ci lvl (xu h) ops (qY k) (xB k) (xg k) e h:=by
  unfold qh
  have h0: ¬ k<1000:=by omega
  have h1: ¬ k<1000000:=by omega
  have h2: ¬ k<2000000:=by omega
  rw[if_neg h0,if_neg h1,if_neg h2]
  have:AP k h=xu h:=by
    unfold AP
    rw[if_neg (by omega),if_pos hw]
    rfl
  rw[this]
theorem anO{i:Nat}{ops:List Oper}(hk:2000000≤(D.getD (2*i) (0,[])).1)(hw:((D.getD (2*i) (0,[])).1 - 2000000) / 1461501637330902918203684832716283019655932542976 / 1208925819614629174706176=1):go P C cp ci lvl prot D n K (.region i ⟨ops⟩ true) e h fs=
    qH P C cp ci lvl prot D n K (xu h) (qY (D.getD (2*i) (0,[])).1) 0 ops ops e h (qY (D.getD (2*i) (0,[])).1) (xB (D.getD (2*i) (0,[])).1) (xg (D.getD (2*i) (0,[])).1) (D.getD (2*i) (0,[])) fs:=by
  unfold go
  rw[IB,auL hk hw,ahf]
theorem aJv{q:Bool}{h0:Heap}{e:Nat->Option AV}{o:Op}(hq:q=true):ni P C cp q (xu h0) e h o=D7 (bF P C cp e h0.get o) (yl P e h o):=by subst hq;rfl
theorem asR{q:Bool}{h0:Heap}{e:Nat->Option AV}{o:Op}(hq:q=false):ni P C cp q (xu h0) e h o=bF P C cp e h.get o:=by subst hq;rfl
theorem aHt{id:Id}:xu h id=h.get id:=rfl
theorem aEg{h0:Heap}{t:TypeId}{a x:Operand}{ty pos after}:nH P lvl (xu h0) m p all (e,h) ⟨none,.store t a x,ty,pos,after,none⟩=(az e.get a).bind fun q=>(az e.get x).bind (aj8 P lvl m p all t h (xu h0) q):=by
  show((az e.get a).bind λq=>(az e.get x).bind λy=>_)=_
  congr 1
  funext q
  congr 1
  funext y
  cases q <;> try rfl
  rename_i id off ext
  cases ext with
  |succ x=>rfl
  | zero=>
    show((h.get id).bind λb=>_)=(h.get id).bind _
    congr 1
    funext b
    cases b with
    |sl=>unfold ET uB;simp
    | bx rw cells=>
      cases rw
      · unfold ET uB;simp
      · unfold ET uB
        cases hg:(xu h0 id).isNone <;> simp
theorem aHr{t:TypeId}{id:Id}{off:Nat}{y:AV}:aj8 P lvl m p all t h G (.ptr id off 0) y=(h.get id).bind (ET P lvl m p all t id off y (G id)):=rfl
theorem awg{t:TypeId}{id:Id}{off:Nat}{y:AV}{b:ax}:ET P lvl m p all t id off y none b=uB P lvl m p all t id off y b:=if_pos rfl
def RLA:=And.intro @anO<|And.intro @aJv<|And.intro @asR<|And.intro @aHt<|And.intro @aEg<|And.intro @aHr @awg
end
def RL:=And.intro RLA<|And.intro RLX RLO
def O0(D:List (Nat×List Nat)):Nat→List (Nat×List Nat)→Prop
  |_,[]=>True
  |i,[x]=>D.getD i (0,[])=x
  |i,x::y::l=>D.getD i (0,[])=x/\O0 D (i+1) (y::l)
theorem ajH{D:List (Nat×List Nat)}: ∀ (l:List (Nat×List Nat)) (i:Nat),D.drop i=l→O0 D i l
  |[],_,_=>trivial
  | [x],i,h=>by
    show D.getD i (0,[])=x
    rw[List.getD_eq_getElem?_getD,show D[i]? =(D.drop i)[0]? by simp,h];rfl
  | x::y::l,i,h=>by
    refine⟨?_,ajH (y::l) (i+1) ?_⟩
    · rw[List.getD_eq_getElem?_getD,show D[i]? =(D.drop i)[0]? by simp,h];rfl
    · rw[← List.drop_drop,h];rfl
theorem aC{D l:List (Nat×List Nat)}(h:D=l):O0 D 0 l:=ajH l 0 h
def DT:=And.intro @decide_true @decide_false
section
variable {P:Program}
def awo:TV→Bool
  | .struct=>false
  | .array _ _ _=>false
  |_=>true
theorem jQ{t:TypeId}{v:TV}(hv:aP P t=some v)(hp:awo v=true): ∀ {xs:List AV} {off:Nat},part P xs t off=xs[off]? :=fun {xs off}=>by
  refine aCE (λ_ _ h=> ?_) ?_
  · rw[hv]at h;cases h;cases hp
  · rw[hv];cases v <;> first|trivial|cases hp
theorem eu{s:TypeId}{i o:Nat}{ft:TypeId}{w:Nat}(hf:dh P s i=some (o,ft))(ht:bi P ft=w)(hw:(w=0)=False): ∀ {g:Id→Option ax} {id:Id} {off ext:Nat},ng P s g (.ptr id off ext) i=(g id).bind (Bo id off ext o):=
  apH hf (by rw[ht];exact hw)
theorem eG{s:TypeId}{i o:Nat}{ft:TypeId}{w:Nat}(hf:dh P s i=some (o,ft))(ht:bi P ft=w)(hw:(w=0)=False): ∀ {g:Id→Option ax} {xs:List AV} {off:Nat},ng P s g (.aF xs off) i=some (.aF xs (off+o)):=
  anY hf (by rw[ht];exact hw)
theorem iy{t i o:Nat}{ft:TypeId}{w:Nat}(hf:dh P t i=some (o,ft))(ht:bi P ft=w):gq P t i=some (o,w):=by unfold gq;rw[hf];subst ht;rfl
theorem DN{t:TypeId}(hs:bi P t=1): ∀ {h:Heap} {id:Id} {off ext:Nat} {k:IntKind} {z:Int},iK P t h (.ptr id off ext) (.v (.int k z))=(h.get id).bind (mf h id off ext (.v (.int k z))):=aEd hs
theorem sbW{t:TypeId}(hs:bi P t=1): ∀ {h:Heap} {id:Id} {off ext:Nat} {z:Bool},iK P t h (.ptr id off ext) (.v (.bool z))=(h.get id).bind (mf h id off ext (.v (.bool z))):=aEG hs
theorem Ba{t:TypeId}(hs:bi P t=1): ∀ {h:Heap} {id:Id} {off ext m:Nat} {xs:List AV},iK P t h (.ptr id off ext) (.arr m xs)=(h.get id).bind (mf h id off ext (.arr m xs)):=aul hs
theorem Ag{t:TypeId}(hs:bi P t=1): ∀ {h:Heap} {id j:Id} {off ext o m x:Nat},iK P t h (.ptr id off ext) (.own j o m x)=(h.get id).bind (zY h id off ext (.own j o m x)):=aFJ hs
theorem BJ{t el:TypeId}{sz by_:Nat}(hv:aP P t=some (.slice el sz by_)): ∀ {m:Nat} {xs:List AV} {i:Int} {g:Id->Option ax},0<=i->i<m->oH P t g (.arr m xs) i=some (.aF xs (i.toNat*sz)):=aLp hv
theorem Bl{t el:TypeId}{sz by_:Nat}(hv:aP P t=some (.slice el sz by_)): ∀ {id:Id} {off m ext:Nat} {i:Int} {g:Id->Option ax},oH P t g (.own id off m ext) i=(g id).bind (QR id off m ext sz i):=aHz hv
theorem zO{t el:TypeId}{sz by_:Nat}(hv:aP P t=some (.slice el sz by_)): ∀ {x:AV},jJ P .len #[t] [x]=(zq x).bind λn=>some (.v (.int .i64 n)):=aDo hv
theorem wI{t:TypeId}{z:List AV}(hz:dG P t=some z): ∀ {C:bn} {cp:af} {ci:bg} {lvl:Nat} {e:Env} {h:Heap} {d:Option Tmp},bW P C cp ci lvl e h d (.alloc t)=qo lvl (d.getD 0) h (some (.newbx z)):=aGf hz
theorem xI{t:TypeId}{z:List AV}(hz:dG P t=some z): ∀ {C:bn} {cp:af} {g:Id->Option ax} {e:Nat->Option AV},bF P C cp e g (.alloc t)=some (.newbx z):=aCL hz
theorem Aa{t:TypeId}{z:List AV}(hz:dG P t=some z)(ht:aP P t=some .struct): ∀ {parts:List (Nat×AV)},yE P t parts=(lV (gq P t) z parts).bind λxs=>some (.agg xs):=aKO hz ht
theorem aoW{t el:TypeId}{sz by_:Nat}(hv:aP P t=some (.slice el sz by_)): ∀ {off m ext:Nat} {id:Id} {lo hi:Option AV} {g:Id->Option ax},oN P t g (.own id off m ext) lo hi=(g id).bind λb=>(jq lo 0).bind λl=>(jq hi m).bind λr=>Kq id off ext sz l r b:=ayA hv
theorem asW{t el:TypeId}{sz by_:Nat}(hv:aP P t=some (.slice el sz by_)): ∀ {m:Nat} {xs:List AV} {lo hi:Option AV} {g:Id->Option ax},oN P t g (.arr m xs) lo hi=(jq lo 0).bind λl=>(jq hi m).bind λr=>QZ sz m xs l r:=ard hv
theorem Df{t el:TypeId}{sz by_:Nat}{z:List AV}(hv:aP P t=some (.slice el sz by_))(hz:dG P el=some z)(hl:z.length=sz)(h0:0<sz): ∀ {lvl d:Nat} {h:Heap} {x y:AV},Je P lvl d t t h x y=(kT h.get y).bind (BP lvl d sz by_ h x y (inner h.get y)):=axc hv hz hl h0
theorem Ad{t el:TypeId}{sz by_:Nat}{z:List AV}(hv:aP P t=some (.slice el sz by_))(hz:dG P el=some z)(hl:z.length=sz)(h0:0<sz): ∀ {len:Nat} {parts:List (Nat×AV)},len*sz<=16777216->wY P t len parts=(lV (ZL sz) (List.replicate len z).flatten parts).bind (YO sz len):=λh=>auc hv hz h hl h0
end
end Go.Av
