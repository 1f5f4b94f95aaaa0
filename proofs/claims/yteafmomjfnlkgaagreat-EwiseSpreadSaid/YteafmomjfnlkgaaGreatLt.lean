/- A region with a store among the quiet operations of its head, in walks. Conditions: those that each names. -/
import Derived.Test.YteafmomjfnlkgaaGreatSl
set_option linter.unusedVariables false
set_option linter.defProp false
namespace Go.Av
section
variable (P:Program) (C:Cfg) (cp:CallP) (ci:CallI) (lvl:Nat) (prot:List Id) (D:List (Nat×List Nat)) (n:Nat) (K:KK)
def gstM(all:List Oper)(m ps:Nat)(dr:Nat×List Nat)(fs:List Fr)(k i:Nat)(e:Env)(h:Heap):Option AV:=
  (storesM P lvl (λ_=>none) m all ps k i (e,h)).bind λh'=>gops P C cp ci lvl prot D n K all (all.drop m) e h' dr fs
def gl2(all:List Oper)(m ps:Nat)(dr:Nat×List Nat)(fs:List Fr)(r:Env×Heap):Option AV:=gstM P C cp ci lvl prot D n K all m ps dr fs m 0 r.1 r.2
def gopsL(k i:Nat)(all os:List Oper)(e:Env)(h:Heap)(m ps qs:Nat)(dr:Nat×List Nat)(fs:List Fr):Option AV:=
  (aopsL P C cp lvl (λ_=>none) all ps qs k i os e h).bind (gl2 P C cp ci lvl prot D n K all m ps dr fs)
def gnextL(k i:Nat)(all os:List Oper)(d:Option Tmp)(e:Env)(m ps qs:Nat)(dr:Nat×List Nat)(fs:List Fr)(r:AV×Heap):Option AV:=
  gopsL P C cp ci lvl prot D n K k i all os (putE e d r.1) r.2 m ps qs dr fs
def gl3(all:List Oper)(m ps:Nat)(dr:Nat×List Nat)(fs:List Fr)(k i:Nat)(e:Env)(h:Heap)(s:Id×Blk):Option AV:=gstM P C cp ci lvl prot D n K all m ps dr fs k i e (h.set s.1 s.2)
def gF5(all:List Oper)(m:Nat)(dr:Nat×List Nat)(fs:List Fr)(e:Env)(o2:Oper)(d:Nat)(y:AV)(r:AV×Heap):Option AV:=
  gops P C cp ci lvl prot D n K all (all.drop (m+1)) ((putE (e.drop [d]) o2.dst r.1).set d y) r.2 dr fs
def gF4(all:List Oper)(m:Nat)(dr:Nat×List Nat)(fs:List Fr)(e:Env)(h:Heap)(o2:Oper)(d:Nat)(y:AV):Option AV:=
  if flat y=true then(aop P C cp ci lvl (e.drop [d]) h o2.dst o2.op).bind (gF5 P C cp ci lvl prot D n K all m dr fs e o2 d y)else none
def gF3(all:List Oper)(m:Nat)(dr:Nat×List Nat)(fs:List Fr)(e:Env)(h:Heap)(o2:Oper):Op→Option Tmp→Option AV
  | .move (.tmp a),some d=>(e.get a).bind (gF4 P C cp ci lvl prot D n K all m dr fs e h o2 d)
  |_,_=>none
def gF2(all:List Oper)(m f:Nat)(dr:Nat×List Nat)(fs:List Fr)(r:Env×Heap):Option AV:=
  (all[f]?).bind λo=>(all[m]?).bind λo2=>gF3 P C cp ci lvl prot D n K all m dr fs r.1 r.2 o2 o.op o.dst
def gF(k:Nat)(all os:List Oper)(e:Env)(h:Heap)(m f:Nat)(dr:Nat×List Nat)(fs:List Fr):Option AV:=
  (aopsQ P C cp ci lvl all k os e h).bind (gF2 P C cp ci lvl prot D n K all m f dr fs)
def gFn(k:Nat)(all os:List Oper)(d:Option Tmp)(e:Env)(m f:Nat)(dr:Nat×List Nat)(fs:List Fr)(r:AV×Heap):Option AV:=
  gF P C cp ci lvl prot D n K k all os (putE e d r.1) r.2 m f dr fs
def lateB(lvl m p:Nat)(all:List Oper)(t:TypeId)(id:Id)(off:Nat)(y:AV):Blk→Option (Id×Blk)
  | .bx true cells=>if y.cells.length=tsize P t∧0<tsize P t∧off+y.cells.length≤cells.length∧y.cells.all AV.one=true∧
      (id.1 != lvl || (List.range m).all λj=>((all[j]?).bind (·.dst)) != some id.2.1 || Region.waitsFor .any all.toArray p j)=true then some (id,.bx true (putCells cells off y.cells))else none
  |_=>none
def lateQR(lvl m p:Nat)(all:List Oper)(t:TypeId)(id:Id)(off xt:Nat)(y:AV)(b:Blk):Option (Id×Blk):=lateR P lvl (λ_=>none) m p all true t id off xt y b
def lateQ(lvl m p:Nat)(all:List Oper)(t:TypeId)(h:Heap)(q y:AV):Option (Id×Blk):=match q with
  | .ptr id off 0=>(h.get id).bind (lateB P lvl m p all t id off y)
  | .ptr id off (xt+1)=>(h.get id).bind (lateQR P lvl m p all t id off xt y)
  |_=>none
end
section
variable {P:Program} {C:Cfg} {cp:CallP} {ci:CallI} {lvl:Nat} {prot:List Id} {D:List (Nat×List Nat)} {n:Nat} {K:KK}
variable {e:Env} {h:Heap} {fs:List Fr} {all os:List Oper} {dr:Nat×List Nat} {m p k i ps qs:Nat}
theorem late_go{ops:List Oper}{ds:Nat×List Nat}:((aopsLate P C cp ci lvl (fun _=>none) ops m ps qs e h).bind (dropX lvl prot ds)).bind (fun r=>ret P C cp ci lvl prot D n K fs r.1 r.2.1 r.2.2)=gopsL P C cp ci lvl prot D n K m 0 ops ops e h m ps qs ds fs:=by
  unfold aopsLate gopsL
  cases aopsL P C cp lvl (λ_=>none) ops ps qs m 0 ops e h with
  |none=>rfl
  | some r=>
    simp only[ob_some,gl2,gstM]
    cases storesM P lvl (λ_=>none) m ops ps m 0 (r.1,r.2)with
    |none=>rfl
    | some h1=>
      simp only[ob_some,gops]
      cases aops P C cp ci lvl ops (ops.drop m) r.1 h1 with
      |none=>rfl
      | some r2=>
        simp only[ob_some,dropX,gpost]
        cases post lvl prot ds.2 (r2.1.drop ds.2) r2.2 <;> rfl
theorem aopsW_late{ops:List Oper}{k:Nat}(hk:2000000≤k)(hw:(k - 2000000) / 1461501637330902918203684832716283019655932542976 / 1208925819614629174706176=0):aopsW P C cp ci lvl ops k e h=aopsLate P C cp ci lvl (fun _=>none) ops (lateN k) (lateP k) (lateQs k) e h:=by
  unfold aopsW
  have h0: ¬ k<1000:=by omega
  have h1: ¬ k<1000000:=by omega
  have h2: ¬ k<2000000:=by omega
  rw[if_neg h0,if_neg h1,if_neg h2]
  have:lateG k h=λ_=>none:=if_pos hw
  rw[this]
theorem go_late{i:Nat}{ops:List Oper}(hk:2000000≤(D.getD (2*i) (0,[])).1)(hw:((D.getD (2*i) (0,[])).1 - 2000000) / 1461501637330902918203684832716283019655932542976 / 1208925819614629174706176=0):go P C cp ci lvl prot D n K (.region i ⟨ops⟩ true) e h fs=
    gopsL P C cp ci lvl prot D n K (lateN (D.getD (2*i) (0,[])).1) 0 ops ops e h (lateN (D.getD (2*i) (0,[])).1) (lateP (D.getD (2*i) (0,[])).1) (lateQs (D.getD (2*i) (0,[])).1) (D.getD (2*i) (0,[])) fs:=by
  unfold go
  rw[exec_draw,aopsW_late hk hw,late_go]
theorem float_go {f:Nat}{ops:List Oper}{ds:Nat×List Nat}:((aopsF P C cp ci lvl ops m f e h).bind (dropX lvl prot ds)).bind (fun r=>ret P C cp ci lvl prot D n K fs r.1 r.2.1 r.2.2)=gF P C cp ci lvl prot D n K m ops (ops.take m) e h m f ds fs:=by
  unfold aopsF gF
  cases aopsQ P C cp ci lvl ops m (ops.take m) e h with
  |none=>rfl
  | some r=>
    simp only[ob_some,gF2]
    cases ops[f]? with
    |none=>rfl
    | some o=>
      simp only[ob_some]
      cases ops[m]? with
      |none=>rfl
      | some o2 =>
        simp only[ob_some]
        have key : ∀ (op:Op) (dd:Option Tmp),((floatD P C cp ci lvl ops m r o2 op dd).bind (dropX lvl prot ds)).bind (fun r=>ret P C cp ci lvl prot D n K fs r.1 r.2.1 r.2.2)=gF3 P C cp ci lvl prot D n K ops m ds fs r.1 r.2 o2 op dd:=fun op dd=>by
          cases op <;> try rfl
          rename_i x
          cases x <;> try rfl
          rename_i a
          cases dd <;> try rfl
          rename_i d
          show(((r.1.get a).bind λy=>floatN P C cp ci lvl ops m d y r o2).bind _).bind _=(r.1.get a).bind _
          cases r.1.get a with
          |none=>rfl
          | some y=>
            simp only[ob_some]
            unfold floatN gF4
            by_cases hf:flat y=true
            · rw [if_pos hf,if_pos hf]
              cases aop P C cp ci lvl (r.1.drop [d]) r.2 o2.dst o2.op with
              |none=>rfl
              | some z=>
                simp only[ob_some,gF5,gops]
                cases aops P C cp ci lvl ops (ops.drop (m+1)) ((putE (r.1.drop [d]) o2.dst z.1).set d y) z.2 with
                |none=>rfl
                | some r2=>
                  simp only[ob_some,dropX,gpost]
                  cases post lvl prot ds.2 (r2.1.drop ds.2) r2.2 <;> rfl
            · rw[if_neg hf,if_neg hf];rfl
        exact key o.op o.dst
theorem aopsW_float{ops:List Oper}{k:Nat}(hk:1000≤k)(hk2:k<1000000):aopsW P C cp ci lvl ops k e h=aopsF P C cp ci lvl ops (k%1000) (k / 1000 - 1) e h:=by
  unfold aopsW
  have h0: ¬ k<1000:=by omega
  rw[if_neg h0,if_pos hk2]
theorem go_float{i:Nat}{ops:List Oper}(hk:1000≤(D.getD (2*i) (0,[])).1)(hk2:(D.getD (2*i) (0,[])).1<1000000):go P C cp ci lvl prot D n K (.region i ⟨ops⟩ true) e h fs=
    gF P C cp ci lvl prot D n K ((D.getD (2*i) (0,[])).1%1000) ops (ops.take ((D.getD (2*i) (0,[])).1%1000)) e h ((D.getD (2*i) (0,[])).1%1000) ((D.getD (2*i) (0,[])).1 / 1000 - 1) (D.getD (2*i) (0,[])) fs:=by
  unfold go
  rw[exec_draw,aopsW_float hk hk2,float_go]
theorem gF_zero{f:Nat}:gF P C cp ci lvl prot D n K 0 all [] e h m f dr fs=gF2 P C cp ci lvl prot D n K all m f dr fs (e,h):=rfl
theorem gF_free{f:Nat}{d op ty pos after}:gF P C cp ci lvl prot D n K (k+1) all (⟨d,op,ty,pos,after,none⟩::os) e h m f dr fs=
    (qo lvl (d.getD 0) h (aopQ P C cp e.get h.get op)).bind (gFn P C cp ci lvl prot D n K k all os d e m f dr fs):=by
  unfold gF
  simp only[aopsQ]
  show((aopQ P C cp e.get h.get op).bind λt=>_).bind _=_
  cases aopQ P C cp e.get h.get op with
  |none=>rfl
  | some t=>
    simp only[qo,ob_some]
    cases importR lvl (d.getD 0) 4 t (0,h) <;> rfl
theorem gFn_at{f:Nat}{d y}:gFn P C cp ci lvl prot D n K k all os d e m f dr fs (y,h)=gF P C cp ci lvl prot D n K k all os (putE e d y) h m f dr fs:=rfl
theorem gF2_at{f:Nat}:gF2 P C cp ci lvl prot D n K all m f dr fs (e,h)=(all[f]?).bind λo=>(all[m]?).bind λo2=>gF3 P C cp ci lvl prot D n K all m dr fs e h o2 o.op o.dst:=rfl
theorem gF3_at{a d:Nat}{o2:Oper}:gF3 P C cp ci lvl prot D n K all m dr fs e h o2 (.move (.tmp a)) (some d)=(e.get a).bind (gF4 P C cp ci lvl prot D n K all m dr fs e h o2 d):=rfl
theorem gF4_at{d:Nat}{o2:Oper}{y:AV}(hy:flat y=true):gF4 P C cp ci lvl prot D n K all m dr fs e h o2 d y=(aop P C cp ci lvl (e.drop [d]) h o2.dst o2.op).bind (gF5 P C cp ci lvl prot D n K all m dr fs e o2 d y):=if_pos hy
theorem gF5_at{d:Nat}{o2:Oper}{y z:AV}:gF5 P C cp ci lvl prot D n K all m dr fs e o2 d y (z,h)=gops P C cp ci lvl prot D n K all (all.drop (m+1)) ((putE (e.drop [d]) o2.dst z).set d y) h dr fs:=rfl
theorem lateN_at{k:Nat}:lateN k=(k - 2000000) / 1461501637330902918203684832716283019655932542976%1208925819614629174706176:=rfl
theorem lateP_at{k:Nat}:lateP k=(k - 2000000) / 1208925819614629174706176%1208925819614629174706176:=rfl
theorem lateQs_at{k:Nat}:lateQs k=(k - 2000000)%1208925819614629174706176:=rfl
theorem gopsL_zero:gopsL P C cp ci lvl prot D n K 0 i all os e h m ps qs dr fs=gl2 P C cp ci lvl prot D n K all m ps dr fs (e,h):=by cases os <;> rfl
theorem gopsL_skip{op ty pos after gd}(hi:ps.testBit i=true):gopsL P C cp ci lvl prot D n K (k+1) i all (⟨none,op,ty,pos,after,gd⟩::os) e h m ps qs dr fs=gopsL P C cp ci lvl prot D n K k (i+1) all os e h m ps qs dr fs:=by
  unfold gopsL
  simp only[aopsL]
  rw[if_pos hi]
  rfl
theorem gopsL_free{d op ty pos after}(hi:ps.testBit i=false):gopsL P C cp ci lvl prot D n K (k+1) i all (⟨d,op,ty,pos,after,none⟩::os) e h m ps qs dr fs=
    (qo lvl (d.getD 0) h (aopQL P C cp (qs.testBit i) (λ_=>none) e.get h op)).bind (gnextL P C cp ci lvl prot D n K k (i+1) all os d e m ps qs dr fs):=by
  unfold gopsL
  simp only[aopsL]
  rw[if_neg (by rw[hi];decide)]
  show((aopQL P C cp (qs.testBit i) (λ_=>none) e.get h op).bind λt=>_).bind _=_
  cases aopQL P C cp (qs.testBit i) (λ_=>none) e.get h op with
  |none=>rfl
  | some t=>
    simp only[qo,ob_some]
    cases importR lvl (d.getD 0) 4 t (0,h) <;> rfl
theorem gnextL_at{d y}:gnextL P C cp ci lvl prot D n K k i all os d e m ps qs dr fs (y,h)=gopsL P C cp ci lvl prot D n K k i all os (putE e d y) h m ps qs dr fs:=rfl
theorem aopQL_on{q:Bool}{e:Nat->Option AV}{o:Op}(hq:q=true):aopQL P C cp q (λ_=>none) e h o=orV (aopQ P C cp e (λ_=>none) o) (lateV P e h o):=by subst hq;rfl
theorem aopQL_off{q:Bool}{e:Nat->Option AV}{o:Op}(hq:q=false):aopQL P C cp q (λ_=>none) e h o=aopQ P C cp e h.get o:=by subst hq;rfl
theorem orV_some{t:AV}{y:Option AV}:orV (some t) y=some t:=rfl
theorem orV_none{y:Option AV}:orV none y=y:=rfl
theorem lateV_k{e:Nat->Option AV}{x:Operand}:lateV P e h (.nilCheck x)=(opnd e x).bind (lateK h):=rfl
theorem lateV_f{e:Nat->Option AV}{x:Operand}{s:TypeId}{i:Nat}:lateV P e h (.fieldAddr s x i)=(opnd e x).bind (lateF P s i h):=rfl
theorem lateK_at{id:Id}{off:Nat}:lateK h (.ptr id off 0)=(h.get id).bind (lateKB id off):=rfl
theorem lateKB_at{id:Id}{off:Nat}{rw:Bool}{cells:List AV}:lateKB id off (.bx rw cells)=some (.ptr id off 0):=rfl
theorem lateF_at{s:TypeId}{i:Nat}{id:Id}{off:Nat}:lateF P s i h (.ptr id off 0)=(h.get id).bind (lateFB P s i id off):=rfl
theorem lateFB_at{s:TypeId}{i o:Nat}{t:TypeId}{id:Id}{off:Nat}{rw:Bool}{cells:List AV}(hf:fieldOf P s i=some (o,t))(ht:(tsize P t=0)=False):lateFB P s i id off (.bx rw cells)=some (.ptr id (off+o) 0):=by
  unfold lateFB
  rw[hf]
  show(if tsize P t=0 then none else _)=_
  rw[if_neg (by rw[ht];exact λhh=>hh)]
theorem gl2_at:gl2 P C cp ci lvl prot D n K all m ps dr fs (e,h)=gstM P C cp ci lvl prot D n K all m ps dr fs m 0 e h:=rfl
theorem gl3_at{id:Id}{b:Blk}:gl3 P C cp ci lvl prot D n K all m ps dr fs k i e h (id,b)=gstM P C cp ci lvl prot D n K all m ps dr fs k i e (h.set id b):=rfl
theorem gstM_zero:gstM P C cp ci lvl prot D n K all m ps dr fs 0 i e h=gops P C cp ci lvl prot D n K all (all.drop m) e h dr fs:=rfl
theorem gstM_skip(hi:ps.testBit i=false):gstM P C cp ci lvl prot D n K all m ps dr fs (k+1) i e h=gstM P C cp ci lvl prot D n K all m ps dr fs k (i+1) e h:=by
  unfold gstM
  simp only[storesM]
  rw[if_neg (by rw[hi];decide)]
theorem gstM_store(hi:ps.testBit i=true):gstM P C cp ci lvl prot D n K all m ps dr fs (k+1) i e h=(all[i]?).bind fun o=>(lateS P lvl (fun _=>none) m i all (e,h) o).bind (gl3 P C cp ci lvl prot D n K all m ps dr fs k (i+1) e h):=by
  unfold gstM
  simp only[storesM]
  rw[if_pos hi]
  cases all[i]? with
  |none=>rfl
  | some o=>
    simp only[ob_some]
    cases lateS P lvl (λ_=>none) m i all (e,h) o <;> rfl
def waitsL(all:List Oper)(j i:Nat):Bool:=match all[j]? with
  |some o=>o.after.toList.any λe=>Region.binds .any e&&e.on==i
  |none=>false
theorem waitsL_eq:waitsL all k i=Region.waitsFor .any all.toArray k i:=by
  unfold waitsL Region.waitsFor
  simp only[List.getElem?_toArray]
  cases all[k]? with
  |none=>rfl
  |some o=>simp only[Array.any_toList]
theorem lateS_at{t:TypeId}{a x:Operand}{ty pos after}:lateS P lvl (fun _=>none) m p all (e,h) ⟨none,.store t a x,ty,pos,after,none⟩=(opnd e.get a).bind fun q=>(opnd e.get x).bind (lateQ P lvl m p all t h q):=by
  show((opnd e.get a).bind λq=>(opnd e.get x).bind λy=>_)=_
  congr 1
  funext q
  congr 1
  funext y
  cases q <;> try rfl
  rename_i id off ext
  cases ext with
  | succ x=>
    show(h.get id).bind _=(h.get id).bind _
    congr 1
  | zero=>
    show((h.get id).bind λb=>_)=(h.get id).bind _
    congr 1
    funext b
    cases b with
    |sl=>rfl
    |bx rw cells=>cases rw <;> simp[lateB]
theorem lateQ_ptr{t:TypeId}{id:Id}{off:Nat}{y:AV}:lateQ P lvl m p all t h (.ptr id off 0) y=(h.get id).bind (lateB P lvl m p all t id off y):=rfl
theorem lateB_int{t:TypeId}{id:Id}{off:Nat}{k:IntKind}{z:Int}{cells:List AV}(hs:tsize P t=1)(ho:off<cells.length)
    (hc:(id.1 != lvl || (List.range m).all λj=>((all[j]?).bind (·.dst)) != some id.2.1 || waitsL all p j)=true):lateB P lvl m p all t id off (.v (.int k z)) (.bx true cells)=some (id,.bx true (putCells cells off [.v (.int k z)])):=by
  simp only[waitsL_eq]at hc
  show(if(AV.v (.int k z)).cells.length=tsize P t/\0<tsize P t/\off+(AV.v (.int k z)).cells.length<=cells.length/\(AV.v (.int k z)).cells.all AV.one=true/\_ then _ else none)=_
  rw[if_pos ⟨by rw[hs];rfl,by omega,by show off+1<=_;omega,rfl,hc⟩]
  rfl
def lateRB(P:Program)(lvl m p:Nat)(all:List Oper)(t:TypeId)(id:Id)(off ext:Nat)(k:IntKind)(z:Int)(b:Blk):Option (Id×Blk):=lateQR P lvl m p all t id off (ext - 1) (.v (.int k z)) b
theorem lateQ_row{t:TypeId}{id:Id}{off ext:Nat}{k:IntKind}{z:Int}(h0:0<ext):lateQ P lvl m p all t h (.ptr id off ext) (.v (.int k z))=(h.get id).bind (lateRB P lvl m p all t id off ext k z):=by
  cases ext with
  |zero=>omega
  |succ x=>rfl
theorem lateRB_at{t:TypeId}{id:Id}{off ext sz:Nat}{k:IntKind}{z:Int}{cells:List AV}(h0:0<ext)(hs:tsize P t=1)(ho:off<cells.length)
    (hc:(id.1 != lvl || (List.range m).all λj=>((all[j]?).bind (·.dst)) != some id.2.1 || waitsL all p j)=true):lateRB P lvl m p all t id off ext k z (.sl true true sz ext cells)=some (id,.sl true true sz ext (putCells cells off [.v (.int k z)])):=by
  simp only[waitsL_eq]at hc
  unfold lateRB lateQR lateR
  simp only[]
  rw[if_pos ⟨trivial,rfl,by omega,hs,by omega,hc⟩]
def lateH(w lvl m p:Nat)(all:List Oper)(id:Id)(off:Nat)(ys cells:List AV):Option (Id×Blk):=
  if ys.length=w/\0<w/\off+ys.length<=cells.length/\ys.all AV.one=true/\(id.1 != lvl || (List.range m).all λj=>((all[j]?).bind (·.dst)) != some id.2.1 || waitsL all p j)=true then some (id,.bx true (putCells cells off ys))else none
theorem lateB_agg{t:TypeId}{id:Id}{off:Nat}{ys cells:List AV}:lateB P lvl m p all t id off (.agg ys) (.bx true cells)=lateH (tsize P t) lvl m p all id off ys cells:=by
  unfold lateH
  simp only[waitsL_eq]
  rfl
theorem lateH_at{w:Nat}{id:Id}{off:Nat}{ys cells:List AV}(hs:ys.length=w)(h0:0<w)(ho:off+ys.length≤cells.length)(h1:ys.all AV.one=true)
    (hc:(id.1 != lvl || (List.range m).all λj=>((all[j]?).bind (·.dst)) != some id.2.1 || waitsL all p j)=true):lateH w lvl m p all id off ys cells=some (id,.bx true (putCells cells off ys)):=if_pos ⟨hs,h0,ho,h1,hc⟩
def RLO:=And.intro @go_late<|And.intro @go_float<|And.intro @gF_zero<|And.intro @gF_free<|And.intro @gFn_at<|And.intro @gF2_at<|And.intro @gF3_at<|And.intro @gF4_at<|And.intro @gF5_at<|And.intro @lateN_at<|And.intro @lateP_at<|And.intro @lateQs_at<|And.intro @gopsL_zero<|And.intro @gopsL_skip<|And.intro @gopsL_free<|And.intro @gnextL_at<|And.intro @aopQL_on<|And.intro @aopQL_off<|And.intro @orV_some<|And.intro @orV_none<|And.intro @lateV_k<|And.intro @lateV_f<|And.intro @lateK_at<|And.intro @lateKB_at<|And.intro @lateF_at<|And.intro @lateFB_at<|And.intro @gl2_at<|And.intro @gl3_at<|And.intro @gstM_zero<|And.intro @gstM_skip<|And.intro @gstM_store<|And.intro @lateS_at<|And.intro @lateQ_ptr<|And.intro @lateQ_row<|And.intro @lateRB_at<|And.intro @lateB_int<|And.intro @lateB_agg @lateH_at
end
section
variable (P:Program) (C:Cfg) (cp:CallP) (ci:CallI) (lvl:Nat) (prot:List Id) (D:List (Nat×List Nat)) (n:Nat) (K:KK) (G:Id->Option Blk)
def gsX(all:List Oper)(m ps:Nat)(dr:Nat×List Nat)(fs:List Fr)(k i:Nat)(e:Env)(h:Heap):Option AV:=
  (storesM P lvl G m all ps k i (e,h)).bind λh'=>gops P C cp ci lvl prot D n K all (all.drop m) e h' dr fs
def gX2(all:List Oper)(m ps:Nat)(dr:Nat×List Nat)(fs:List Fr)(r:Env×Heap):Option AV:=gsX P C cp ci lvl prot D n K G all m ps dr fs m 0 r.1 r.2
def goX(k i:Nat)(all os:List Oper)(e:Env)(h:Heap)(m ps qs:Nat)(dr:Nat×List Nat)(fs:List Fr):Option AV:=
  (aopsL P C cp lvl G all ps qs k i os e h).bind (gX2 P C cp ci lvl prot D n K G all m ps dr fs)
def gnX(k i:Nat)(all os:List Oper)(d:Option Tmp)(e:Env)(m ps qs:Nat)(dr:Nat×List Nat)(fs:List Fr)(r:AV×Heap):Option AV:=
  goX P C cp ci lvl prot D n K G k i all os (putE e d r.1) r.2 m ps qs dr fs
def gX3(all:List Oper)(m ps:Nat)(dr:Nat×List Nat)(fs:List Fr)(k i:Nat)(e:Env)(h:Heap)(s:Id×Blk):Option AV:=gsX P C cp ci lvl prot D n K G all m ps dr fs k i e (h.set s.1 s.2)
def laT(m p:Nat)(all:List Oper)(e:Env)(h:Heap)(d:Tmp)(a b:Operand):TV→Option (Id×Blk)
  | .slice el esz by_=>(tzero P el).bind λz=>(opnd e.get a).bind λx=>(opnd e.get b).bind λy=>lateA1 lvl G m p all h by_ esz (decide (z.length=esz)&&decide (0<esz)) (e.get d) x y
  |_=>none
end
def laZ(lvl:Nat)(G:Id→Option Blk)(m p:Nat)(all:List Oper)(e:Env)(h:Heap)(d:Tmp)(a b:Operand)(esz by_:Nat)(z:List AV):Option (Id×Blk):=
  (opnd e.get a).bind λx=>(opnd e.get b).bind λy=>lateA1 lvl G m p all h by_ esz (decide (z.length=esz)&&decide (0<esz)) (e.get d) x y
def laX(lvl:Nat)(G:Id→Option Blk)(m p:Nat)(all:List Oper)(e:Env)(h:Heap)(d:Tmp)(b:Operand)(esz by_:Nat)(x:AV):Option (Id×Blk):=
  (opnd e.get b).bind λy=>lateA1 lvl G m p all h by_ esz true (e.get d) x y
def laY(lvl:Nat)(G:Id->Option Blk)(m p:Nat)(all:List Oper)(e:Env)(h:Heap)(d:Tmp)(esz by_:Nat)(x y:AV):Option (Id×Blk):=lateA1 lvl G m p all h by_ esz true (e.get d) x y
def laB(lvl:Nat)(G:Id→Option Blk)(m p:Nat)(all:List Oper)(e:Env)(h:Heap)(d:Tmp)(esz by_:Nat)(id:Id)(k ext:Nat)(id2:Id)(off2 mm ext2:Nat)(b:Blk):Option (Id×Blk):=
  (h.get id2).bind λb2=>lateA by_ esz (true&&(G id).isNone&&lateW lvl m p all id&&lateW lvl m p all id2) id k ext mm ext2 off2 (e.get d) b b2
def laC(lvl:Nat)(G:Id→Option Blk)(m p:Nat)(all:List Oper)(e:Env)(d:Tmp)(esz by_:Nat)(id:Id)(k ext:Nat)(id2:Id)(off2 mm ext2:Nat)(b b2:Blk):Option (Id×Blk):=
  lateA by_ esz (true&&(G id).isNone&&lateW lvl m p all id&&lateW lvl m p all id2) id k ext mm ext2 off2 (e.get d) b b2
def ly2:Option AV→Option AV→AV
  |some x,some y=>lateYV x y
  |_,_=> .v undef
section
variable {P:Program} {C:Cfg} {cp:CallP} {ci:CallI} {lvl:Nat} {prot:List Id} {D:List (Nat×List Nat)} {n:Nat} {K:KK} {G:Id->Option Blk}
variable {e:Env} {h:Heap} {fs:List Fr} {all os:List Oper} {dr:Nat×List Nat} {m p k i ps qs:Nat}
theorem lateX_go{ops:List Oper}{ds:Nat×List Nat}:((aopsLate P C cp ci lvl G ops m ps qs e h).bind (dropX lvl prot ds)).bind (fun r=>ret P C cp ci lvl prot D n K fs r.1 r.2.1 r.2.2)=goX P C cp ci lvl prot D n K G m 0 ops ops e h m ps qs ds fs:=by
  unfold aopsLate goX
  cases aopsL P C cp lvl G ops ps qs m 0 ops e h with
  |none=>rfl
  | some r=>
    simp only[ob_some,gX2,gsX]
    cases storesM P lvl G m ops ps m 0 (r.1,r.2)with
    |none=>rfl
    | some h1=>
      simp only[ob_some,gops]
      cases aops P C cp ci lvl ops (ops.drop m) r.1 h1 with
      |none=>rfl
      | some r2=>
        simp only[ob_some,dropX,gpost]
        cases post lvl prot ds.2 (r2.1.drop ds.2) r2.2 <;> rfl
theorem aopsW_lateX{ops:List Oper}{k:Nat}(hk:2000000≤k)(hw:(k - 2000000) / 1461501637330902918203684832716283019655932542976 / 1208925819614629174706176=2):aopsW P C cp ci lvl ops k e h=aopsLate P C cp ci lvl (bxG h) ops (lateN k) (lateP k) (lateQs k) e h:=by
  unfold aopsW
  have h0: ¬ k<1000:=by omega
  have h1: ¬ k<1000000:=by omega
  have h2: ¬ k<2000000:=by omega
  rw[if_neg h0,if_neg h1,if_neg h2]
  have:lateG k h=bxG h:=by
    unfold lateG
    rw[if_neg (by omega),if_neg (by omega)]
  rw[this]
theorem go_lateX{i:Nat}{ops:List Oper}(hk:2000000≤(D.getD (2*i) (0,[])).1)(hw:((D.getD (2*i) (0,[])).1 - 2000000) / 1461501637330902918203684832716283019655932542976 / 1208925819614629174706176=2):go P C cp ci lvl prot D n K (.region i ⟨ops⟩ true) e h fs=
    goX P C cp ci lvl prot D n K (bxG h) (lateN (D.getD (2*i) (0,[])).1) 0 ops ops e h (lateN (D.getD (2*i) (0,[])).1) (lateP (D.getD (2*i) (0,[])).1) (lateQs (D.getD (2*i) (0,[])).1) (D.getD (2*i) (0,[])) fs:=by
  unfold go
  rw[exec_draw,aopsW_lateX hk hw,lateX_go]
theorem goX_zero:goX P C cp ci lvl prot D n K G 0 i all os e h m ps qs dr fs=gX2 P C cp ci lvl prot D n K G all m ps dr fs (e,h):=by cases os <;> rfl
theorem goX_skip{d op ty pos after gd}(hi:ps.testBit i=true):goX P C cp ci lvl prot D n K G (k+1) i all (⟨d,op,ty,pos,after,gd⟩::os) e h m ps qs dr fs=goX P C cp ci lvl prot D n K G k (i+1) all os (putE e d (lateY e.get op)) h m ps qs dr fs:=by
  unfold goX
  simp only[aopsL]
  rw[if_pos hi]
theorem goX_free{d op ty pos after}(hi:ps.testBit i=false):goX P C cp ci lvl prot D n K G (k+1) i all (⟨d,op,ty,pos,after,none⟩::os) e h m ps qs dr fs=
    (qo lvl (d.getD 0) h (aopQL P C cp (qs.testBit i) G e.get h op)).bind (gnX P C cp ci lvl prot D n K G k (i+1) all os d e m ps qs dr fs):=by
  unfold goX
  simp only[aopsL]
  rw[if_neg (by rw[hi];decide)]
  show((aopQL P C cp (qs.testBit i) G e.get h op).bind λt=>_).bind _=_
  cases aopQL P C cp (qs.testBit i) G e.get h op with
  |none=>rfl
  | some t=>
    simp only[qo,ob_some]
    cases importR lvl (d.getD 0) 4 t (0,h) <;> rfl
theorem gnX_at{d y}:gnX P C cp ci lvl prot D n K G k i all os d e m ps qs dr fs (y,h)=goX P C cp ci lvl prot D n K G k i all os (putE e d y) h m ps qs dr fs:=rfl
theorem aopQL_onX{q:Bool}{h0:Heap}{e:Nat->Option AV}{o:Op}(hq:q=true):aopQL P C cp q (bxG h0) e h o=orV (aopQ P C cp e (bxG h0) o) (lateV P e h o):=by subst hq;rfl
theorem aopQL_offX{q:Bool}{h0:Heap}{e:Nat->Option AV}{o:Op}(hq:q=false):aopQL P C cp q (bxG h0) e h o=aopQ P C cp e h.get o:=by subst hq;rfl
theorem bxG_at{id:Id}:bxG h id=(h.get id).bind bxO:=rfl
theorem bxO_at{rw:Bool}{cells:List AV}:bxO (.bx rw cells)=some (.bx rw cells):=rfl
theorem lateY_at{e:Nat→Option AV}{a b:Operand}{ts:Array TypeId}:lateY e (.call ⟨.builtin .append,⟨[a,b]⟩,ts⟩)=ly2 (opnd e a) (opnd e b):=by
  show(match opnd e a,opnd e b with|some x,some y=>lateYV x y|_,_=>AV.v undef)=_
  cases opnd e a <;> cases opnd e b <;> rfl
theorem ly2_at{id id2:Id}{k x o mm z:Nat}:ly2 (some (.own id 0 k x)) (some (.own id2 o mm z))= .own id 0 (k+mm) (k+mm):=rfl
theorem gX2_at:gX2 P C cp ci lvl prot D n K G all m ps dr fs (e,h)=gsX P C cp ci lvl prot D n K G all m ps dr fs m 0 e h:=rfl
theorem gX3_at{id:Id}{b:Blk}:gX3 P C cp ci lvl prot D n K G all m ps dr fs k i e h (id,b)=gsX P C cp ci lvl prot D n K G all m ps dr fs k i e (h.set id b):=rfl
theorem gsX_zero:gsX P C cp ci lvl prot D n K G all m ps dr fs 0 i e h=gops P C cp ci lvl prot D n K all (all.drop m) e h dr fs:=rfl
theorem gsX_skip(hi:ps.testBit i=false):gsX P C cp ci lvl prot D n K G all m ps dr fs (k+1) i e h=gsX P C cp ci lvl prot D n K G all m ps dr fs k (i+1) e h:=by
  unfold gsX
  simp only[storesM]
  rw[if_neg (by rw[hi];decide)]
theorem gsX_store(hi:ps.testBit i=true):gsX P C cp ci lvl prot D n K G all m ps dr fs (k+1) i e h=(all[i]?).bind fun o=>(lateS P lvl G m i all (e,h) o).bind (gX3 P C cp ci lvl prot D n K G all m ps dr fs k (i+1) e h):=by
  unfold gsX
  simp only[storesM]
  rw[if_pos hi]
  cases all[i]? with
  |none=>rfl
  | some o=>
    simp only[ob_some]
    cases lateS P lvl G m i all (e,h) o <;> rfl
theorem lateS_app{d:Tmp}{a b:Operand}{t:TypeId}{ty pos after}:lateS P lvl G m p all (e,h) ⟨some d,.call ⟨.builtin .append,⟨[a,b]⟩,#[t,t]⟩,ty,pos,after,none⟩=(tview P t).bind (laT P lvl G m p all e h d a b):=by
  show(tview P t).bind _=_
  cases tview P t with
  |none=>rfl
  | some tv=>
    show lateAT P lvl G m p all (e,h) _ a b t t tv=_
    cases tv <;> try rfl
    simp only[lateAT,decide_true,Bool.true_and,Option.isNone_none,Option.isSome_some,Bool.and_true]
    rfl
theorem laT_at{d:Tmp}{a b:Operand}{el:TypeId}{esz by_:Nat}:laT P lvl G m p all e h d a b (.slice el esz by_)=(tzero P el).bind (laZ lvl G m p all e h d a b esz by_):=rfl
theorem laZ_at{d:Tmp}{a b:Operand}{esz by_:Nat}{z:List AV}(hl:z.length=esz)(h0:0<esz):laZ lvl G m p all e h d a b esz by_ z=(opnd e.get a).bind (laX lvl G m p all e h d b esz by_):=by
  unfold laZ
  simp only[hl,h0,decide_true,Bool.and_self]
  rfl
theorem laX_at{d:Tmp}{b:Operand}{esz by_:Nat}{x:AV}:laX lvl G m p all e h d b esz by_ x=(opnd e.get b).bind (laY lvl G m p all e h d esz by_ x):=rfl
theorem laY_at{d:Tmp}{esz by_:Nat}{id id2:Id}{k ext off2 mm ext2:Nat}:laY lvl G m p all e h d esz by_ (.own id 0 k ext) (.own id2 off2 mm ext2)=(h.get id).bind (laB lvl G m p all e h d esz by_ id k ext id2 off2 mm ext2):=rfl
theorem laB_at{d:Tmp}{esz by_:Nat}{id id2:Id}{k ext off2 mm ext2:Nat}{b:Blk}:laB lvl G m p all e h d esz by_ id k ext id2 off2 mm ext2 b=(h.get id2).bind (laC lvl G m p all e d esz by_ id k ext id2 off2 mm ext2 b):=rfl
theorem isOwn_at{id:Id}{k:Nat}:isOwn id k (some (.own id 0 k k))=true:=by simp[isOwn]
theorem laC_ik{d:Tmp}{by_:Nat}{id id2:Id}{l:List Int}{z:Int}{kk:IntKind}{kx:Nat}(hx:kx=l.length)(hG:(G id).isNone=true)(hy:e.get d=some (.own id 0 (kx+1) (kx+1)))(h3:kx+1≤140737488355328)(h4:(kx+1)*by_≤140737488355328)
    (hc:(id.1 != lvl || (List.range m).all λj=>((all[j]?).bind (·.dst)) != some id.2.1 || waitsL all p j)=true) (hc2:(id2.1 != lvl || (List.range m).all λj=>((all[j]?).bind (·.dst)) != some id2.2.1 || waitsL all p j)=true) {rw2:Bool}:
    laC lvl G m p all e d 1 by_ id kx kx id2 0 1 1 (.sl true true 1 kx (lm (ik kk) l)) (.sl true rw2 1 1 [.v (.int kk z)])=some (id,.sl true true 1 (kx+1) (lm (ik kk) (l++[z]))):=by
  simp only[waitsL_eq]at hc hc2
  have w1:lateW lvl m p all id=true:=hc
  have w2:lateW lvl m p all id2=true:=hc2
  unfold laC lateA
  simp only[hG,w1,w2,hy,isOwn_at,Bool.and_self]
  have hcut:cut [AV.v (.int kk z)] 0 1 1 1=[AV.v (.int kk z)]:=rfl
  rw[hcut,if_pos ⟨trivial,trivial,trivial,trivial,trivial,trivial,rfl,h3,h4,rfl⟩]
  have e1:lm (ik kk) l++[AV.v (.int kk z)]=lm (ik kk) (l++[z]):=by simp[lm,ik]
  rw[e1]
def RLX:=And.intro @go_lateX<|And.intro @goX_zero<|And.intro @goX_skip<|And.intro @goX_free<|And.intro @gnX_at<|And.intro @aopQL_onX<|And.intro @aopQL_offX<|And.intro @bxG_at<|And.intro @bxO_at<|And.intro @lateY_at<|And.intro @ly2_at<|And.intro @gX2_at<|And.intro @gX3_at<|And.intro @gsX_zero<|And.intro @gsX_skip<|And.intro @gsX_store<|And.intro @lateS_app<|And.intro @laT_at<|And.intro @laZ_at<|And.intro @laX_at<|And.intro @laY_at<|And.intro @laB_at<| @laC_ik
end
def allG(h:Heap)(id:Id):Option Blk:=h.get id
def lateBX(P:Program)(lvl m p:Nat)(all:List Oper)(t:TypeId)(id:Id)(off:Nat)(y:AV)(g:Option Blk)(b:Blk):Option (Id×Blk):=if g.isNone=true then lateB P lvl m p all t id off y b else none
def lateQX(P:Program)(lvl m p:Nat)(all:List Oper)(t:TypeId)(h:Heap)(G:Id→Option Blk)(q y:AV):Option (Id×Blk):=match q with
  | .ptr id off 0=>(h.get id).bind (lateBX P lvl m p all t id off y (G id))
  | .ptr id off (xt+1)=>(h.get id).bind (lateR P lvl G m p all true t id off xt y)
  |_=>none
section
variable {P:Program} {C:Cfg} {cp:CallP} {ci:CallI} {lvl:Nat} {prot:List Id} {D:List (Nat×List Nat)} {n:Nat} {K:KK} {G:Id->Option Blk}
variable {e:Env} {h:Heap} {fs:List Fr} {all os:List Oper} {dr:Nat×List Nat} {m p k i ps qs:Nat}
theorem aopsW_lateA{ops:List Oper}{k:Nat}(hk:2000000≤k)(hw:(k - 2000000) / 1461501637330902918203684832716283019655932542976 / 1208925819614629174706176=1):aopsW P C cp ci lvl ops k e h=aopsLate P C cp ci lvl (allG h) ops (lateN k) (lateP k) (lateQs k) e h:=by
  unfold aopsW
  have h0: ¬ k<1000:=by omega
  have h1: ¬ k<1000000:=by omega
  have h2: ¬ k<2000000:=by omega
  rw[if_neg h0,if_neg h1,if_neg h2]
  have:lateG k h=allG h:=by
    unfold lateG
    rw[if_neg (by omega),if_pos hw]
    rfl
  rw[this]
theorem go_lateA{i:Nat}{ops:List Oper}(hk:2000000≤(D.getD (2*i) (0,[])).1)(hw:((D.getD (2*i) (0,[])).1 - 2000000) / 1461501637330902918203684832716283019655932542976 / 1208925819614629174706176=1):go P C cp ci lvl prot D n K (.region i ⟨ops⟩ true) e h fs=
    goX P C cp ci lvl prot D n K (allG h) (lateN (D.getD (2*i) (0,[])).1) 0 ops ops e h (lateN (D.getD (2*i) (0,[])).1) (lateP (D.getD (2*i) (0,[])).1) (lateQs (D.getD (2*i) (0,[])).1) (D.getD (2*i) (0,[])) fs:=by
  unfold go
  rw[exec_draw,aopsW_lateA hk hw,lateX_go]
theorem aopQL_onA{q:Bool}{h0:Heap}{e:Nat->Option AV}{o:Op}(hq:q=true):aopQL P C cp q (allG h0) e h o=orV (aopQ P C cp e h0.get o) (lateV P e h o):=by subst hq;rfl
theorem aopQL_offA{q:Bool}{h0:Heap}{e:Nat->Option AV}{o:Op}(hq:q=false):aopQL P C cp q (allG h0) e h o=aopQ P C cp e h.get o:=by subst hq;rfl
theorem allG_at{id:Id}:allG h id=h.get id:=rfl
theorem lateS_A{h0:Heap}{t:TypeId}{a x:Operand}{ty pos after}:lateS P lvl (allG h0) m p all (e,h) ⟨none,.store t a x,ty,pos,after,none⟩=(opnd e.get a).bind fun q=>(opnd e.get x).bind (lateQX P lvl m p all t h (allG h0) q):=by
  show((opnd e.get a).bind λq=>(opnd e.get x).bind λy=>_)=_
  congr 1
  funext q
  congr 1
  funext y
  cases q <;> try rfl
  rename_i id off ext
  cases ext with
  |succ x=>rfl
  | zero=>
    show((h.get id).bind λb=>_)=(h.get id).bind _
    congr 1
    funext b
    cases b with
    |sl=>unfold lateBX lateB;simp
    | bx rw cells=>
      cases rw
      · unfold lateBX lateB;simp
      · unfold lateBX lateB
        cases hg:(allG h0 id).isNone <;> simp
theorem lateQX_ptr{t:TypeId}{id:Id}{off:Nat}{y:AV}:lateQX P lvl m p all t h G (.ptr id off 0) y=(h.get id).bind (lateBX P lvl m p all t id off y (G id)):=rfl
theorem lateBX_none{t:TypeId}{id:Id}{off:Nat}{y:AV}{b:Blk}:lateBX P lvl m p all t id off y none b=lateB P lvl m p all t id off y b:=if_pos rfl
def RLA:=And.intro @go_lateA<|And.intro @aopQL_onA<|And.intro @aopQL_offA<|And.intro @allG_at<|And.intro @lateS_A<|And.intro @lateQX_ptr @lateBX_none
end
def RL:=And.intro RLA<|And.intro RLX RLO
def AllAt(D:List (Nat×List Nat)):Nat→List (Nat×List Nat)→Prop
  |_,[]=>True
  |i,[x]=>D.getD i (0,[])=x
  |i,x::y::l=>D.getD i (0,[])=x/\AllAt D (i+1) (y::l)
theorem allAt_of{D:List (Nat×List Nat)}: ∀ (l:List (Nat×List Nat)) (i:Nat),D.drop i=l→AllAt D i l
  |[],_,_=>trivial
  | [x],i,h=>by
    show D.getD i (0,[])=x
    rw[List.getD_eq_getElem?_getD,show D[i]? =(D.drop i)[0]? by simp,h];rfl
  | x::y::l,i,h=>by
    refine⟨?_,allAt_of (y::l) (i+1) ?_⟩
    · rw[List.getD_eq_getElem?_getD,show D[i]? =(D.drop i)[0]? by simp,h];rfl
    · rw[← List.drop_drop,h];rfl
theorem tabL{D l:List (Nat×List Nat)}(h:D=l):AllAt D 0 l:=allAt_of l 0 h
def DT:=And.intro @decide_true @decide_false
section
variable {P:Program}
def plainV:TV→Bool
  | .struct=>false
  | .array _ _ _=>false
  |_=>true
theorem ptW{t:TypeId}{v:TV}(hv:tview P t=some v)(hp:plainV v=true): ∀ {xs:List AV} {off:Nat},part P xs t off=xs[off]? :=fun {xs off}=>by
  refine part_one (λ_ _ h=> ?_) ?_
  · rw[hv]at h;cases h;cases hp
  · rw[hv];cases v <;> first|trivial|cases hp
theorem fpW{s:TypeId}{i o:Nat}{ft:TypeId}{w:Nat}(hf:fieldOf P s i=some (o,ft))(ht:tsize P ft=w)(hw:(w=0)=False): ∀ {g:Id→Option Blk} {id:Id} {off ext:Nat},afield P s g (.ptr id off ext) i=(g id).bind (fiB id off ext o):=
  af_ptr hf (by rw[ht];exact hw)
theorem frW{s:TypeId}{i o:Nat}{ft:TypeId}{w:Nat}(hf:fieldOf P s i=some (o,ft))(ht:tsize P ft=w)(hw:(w=0)=False): ∀ {g:Id→Option Blk} {xs:List AV} {off:Nat},afield P s g (.ref xs off) i=some (.ref xs (off+o)):=
  af_ref hf (by rw[ht];exact hw)
theorem flW{t i o:Nat}{ft:TypeId}{w:Nat}(hf:fieldOf P t i=some (o,ft))(ht:tsize P ft=w):flP P t i=some (o,w):=by unfold flP;rw[hf];subst ht;rfl
theorem stW{t:TypeId}(hs:tsize P t=1): ∀ {h:Heap} {id:Id} {off ext:Nat} {k:IntKind} {z:Int},stX P t h (.ptr id off ext) (.v (.int k z))=(h.get id).bind (stI h id off ext (.v (.int k z))):=stX_int hs
theorem sbW{t:TypeId}(hs:tsize P t=1): ∀ {h:Heap} {id:Id} {off ext:Nat} {z:Bool},stX P t h (.ptr id off ext) (.v (.bool z))=(h.get id).bind (stI h id off ext (.v (.bool z))):=stX_bool hs
theorem saW{t:TypeId}(hs:tsize P t=1): ∀ {h:Heap} {id:Id} {off ext m:Nat} {xs:List AV},stX P t h (.ptr id off ext) (.arr m xs)=(h.get id).bind (stI h id off ext (.arr m xs)):=stX_arr hs
theorem soW{t:TypeId}(hs:tsize P t=1): ∀ {h:Heap} {id j:Id} {off ext o m x:Nat},stX P t h (.ptr id off ext) (.own j o m x)=(h.get id).bind (stO h id off ext (.own j o m x)):=stX_own hs
theorem iaW{t el:TypeId}{sz by_:Nat}(hv:tview P t=some (.slice el sz by_)): ∀ {m:Nat} {xs:List AV} {i:Int} {g:Id->Option Blk},0<=i->i<m->aindexAddr P t g (.arr m xs) i=some (.ref xs (i.toNat*sz)):=ia_any hv
theorem ioW{t el:TypeId}{sz by_:Nat}(hv:tview P t=some (.slice el sz by_)): ∀ {id:Id} {off m ext:Nat} {i:Int} {g:Id->Option Blk},aindexAddr P t g (.own id off m ext) i=(g id).bind (iaB id off m ext sz i):=ia_own hv
theorem leW{t el:TypeId}{sz by_:Nat}(hv:tview P t=some (.slice el sz by_)): ∀ {x:AV},abuiltin P .len #[t] [x]=(alen x).bind λn=>some (.v (.int .i64 n)):=len_at hv
theorem alW{t:TypeId}{z:List AV}(hz:tzero P t=some z): ∀ {C:Cfg} {cp:CallP} {ci:CallI} {lvl:Nat} {e:Env} {h:Heap} {d:Option Tmp},aop P C cp ci lvl e h d (.alloc t)=qo lvl (d.getD 0) h (some (.newbx z)):=aop_alloc hz
theorem aqW{t:TypeId}{z:List AV}(hz:tzero P t=some z): ∀ {C:Cfg} {cp:CallP} {g:Id->Option Blk} {e:Nat->Option AV},aopQ P C cp e g (.alloc t)=some (.newbx z):=aq_alloc hz
theorem blW{t:TypeId}{z:List AV}(hz:tzero P t=some z)(ht:tview P t=some .struct): ∀ {parts:List (Nat×AV)},abuild P t parts=(afill (flP P t) z parts).bind λxs=>some (.agg xs):=bld_struct hz ht
theorem aoW{t el:TypeId}{sz by_:Nat}(hv:tview P t=some (.slice el sz by_)): ∀ {off m ext:Nat} {id:Id} {lo hi:Option AV} {g:Id->Option Blk},aslice P t g (.own id off m ext) lo hi=(g id).bind λb=>(sliceLim lo 0).bind λl=>(sliceLim hi m).bind λr=>slO id off ext sz l r b:=asl_own hv
theorem asW{t el:TypeId}{sz by_:Nat}(hv:tview P t=some (.slice el sz by_)): ∀ {m:Nat} {xs:List AV} {lo hi:Option AV} {g:Id->Option Blk},aslice P t g (.arr m xs) lo hi=(sliceLim lo 0).bind λl=>(sliceLim hi m).bind λr=>slA sz m xs l r:=asl_arr hv
theorem apW{t el:TypeId}{sz by_:Nat}{z:List AV}(hv:tview P t=some (.slice el sz by_))(hz:tzero P el=some z)(hl:z.length=sz)(h0:0<sz): ∀ {lvl d:Nat} {h:Heap} {x y:AV},appX P lvl d t t h x y=(newsOf h.get y).bind (appN lvl d sz by_ h x y (inner h.get y)):=appX_at hv hz hl h0
theorem bsW{t el:TypeId}{sz by_:Nat}{z:List AV}(hv:tview P t=some (.slice el sz by_))(hz:tzero P el=some z)(hl:z.length=sz)(h0:0<sz): ∀ {len:Nat} {parts:List (Nat×AV)},len*sz<=16777216->abuildSlice P t len parts=(afill (elP sz) (List.replicate len z).flatten parts).bind (bslE sz len):=λh=>bsl_at hv hz h hl h0
end
end Go.Av
