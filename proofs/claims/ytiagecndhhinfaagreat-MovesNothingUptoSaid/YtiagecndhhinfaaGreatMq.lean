/- Lists as the interpreter's data; more equations. Conditions: those that each names. -/
import Derived.Test.YtiagecndhhinfaaGreatMx
set_option linter.unusedVariables false
set_option linter.defProp false
namespace Go.Av
def ik(k:IntKind)(x:Int):AV:= .v (.int k x)
def bk(b:Bool):AV:= .v (.bool b)
def lm{α:Type}(f:α->AV)(l:List α):List AV:=l.map f
def fm{α:Type}(c:α->List AV)(l:List α):List AV:=l.flatMap c
def eP{α:Type}(f:α->AV)(l:List α):AV:= .arr l.length (lm f l)
def AB{α:Type}(c:α->List AV)(l:List α):AV:= .arr l.length (fm c l)
def frl{α:Type}(f:α->AV)(l:List α):AV:= .fresh 1 l.length (lm f l)
def wk(k:IntKind)(x:Int):Int:=k.wrap x
def band(k:IntKind)(a b:Int):Int:=k.wrap (BitVec.ofInt k.bits a &&& BitVec.ofInt k.bits b).toNat
def uQ(k:IntKind)(a b:Int):Int:=k.wrap (BitVec.ofInt k.bits a ||| BitVec.ofInt k.bits b).toNat
def VX(k:IntKind)(a b:Int):Int:=k.wrap (BitVec.ofInt k.bits a ^^^ BitVec.ofInt k.bits b).toNat
def DN(k:IntKind)(a b:Int):Int:=k.wrap (BitVec.ofInt k.bits a &&& ~~~BitVec.ofInt k.bits b).toNat
def oh(k:IntKind)(a b:Int):Int:=k.wrap (a*2 ^ (min b.toNat k.bits))
def jG(k:IntKind)(a b:Int):Int:=a.fdiv (2 ^ (min b.toNat k.bits))
def sub{α:Type}(l:List α)(lo hi:Int):List α:=(l.drop lo.toNat).take (hi.toNat - lo.toNat)
section
variable {α:Type} {f:α->AV} {c:α->List AV} {l l':List α} {x:α} {i:Nat}
theorem TF:(lm f l).length=l.length:=by simp[lm]
theorem LU(h:l[i]? =some x):(lm f l)[i]? =some (f x):=by simp[lm,h]
theorem fD{l:List Int}{x:Int}{k:IntKind}(h:l[i]? =some x):(lm (ik k) l)[i]? =some (.v (.int k x)):=LU h
theorem atT{l:List Bool}{x:Bool}(h:l[i]? =some x):(lm bk l)[i]? =some (.v (.bool x)):=LU h
theorem aa0{l:List (List α)}{x:List α}(h:l[i]? =some x):(lm (eP f) l)[i]? =some (.arr x.length (lm f x)):=LU h
theorem atP{l:List (List α)}{x:List α}(h:l[i]? =some x):(lm (AB c) l)[i]? =some (.arr x.length (fm c x)):=LU h
theorem atX:lm f []=[]:=rfl
theorem atV:lm f (x::l)=f x::lm f l:=rfl
theorem aaZ:lm f (l++l')=lm f l++lm f l':=by simp[lm]
theorem at1{l:List Int}{x:Int}{k:IntKind}:(lm (ik k) l).set i (.v (.int k x))=lm (ik k) (l.set i x):=by simp[lm,ik,List.map_set]
theorem atZ{l:List Bool}{x:Bool}:(lm bk l).set i (.v (.bool x))=lm bk (l.set i x):=by simp[lm,bk,List.map_set]
theorem atY{l:List (List α)}{x:List α}:(lm (eP f) l).set i (.arr x.length (lm f x))=lm (eP f) (l.set i x):=by simp[lm,eP,List.map_set]
theorem aa1:List.replicate i (f x)=lm f (List.replicate i x):=by simp[lm]
theorem aat{k:IntKind}{x:Int}:ik k x= .v (.int k x):=rfl
theorem VV{b:Bool}:bk b= .v (.bool b):=rfl
theorem Bo{w:Nat}(hw: ∀ x,(c x).length=w):(fm c l).length=l.length*w:=by
  induction l with
  |nil=>simp[fm]
  |cons x l ih=>simp only[fm,List.flatMap_cons,List.length_append]at ih ⊢;rw[hw,ih,List.length_cons,Nat.succ_mul];omega
theorem yY{w:Nat}(hw: ∀ x,(c x).length=w)(h:l[i]? =some x):((fm c l).drop (i*w)).take w=c x:=by
  induction l generalizing i with
  |nil=>simp at h
  | cons y l ih=>
    have hf:fm c (y::l)=c y++fm c l:=by simp[fm]
    cases i with
    | zero=>
      simp at h;subst h
      simp[hf,hw]
    | succ i=>
      rw[List.getElem?_cons_succ]at h
      have h2:(fm c (y::l)).drop ((i+1)*w)=(fm c l).drop (i*w):=by
        rw[hf,show(i+1)*w=(c y).length+i*w by rw[hw,Nat.succ_mul];omega,← List.drop_drop,List.drop_left]
      rw[h2]
      exact ih h
theorem Bl{w:Nat}(hw: ∀ x,(c x).length=w)(h:l[i]? =some x):(i*w+w≤(fm c l).length)=True:=by
  rw[Bo hw]
  refine eq_true ?_
  have:=(List.getElem?_eq_some_iff.1 h).1
  calc i*w+w=(i+1)*w:=by rw[Nat.succ_mul]
    _<=l.length*w:=Nat.mul_le_mul_right _ this
theorem yX{w j:Nat}(hw: ∀ x,(c x).length=w)(h:l[i]? =some x)(hj:j<w):(fm c l)[i*w+j]? =(c x)[j]? :=by
  rw[← yY hw h,List.getElem?_take,if_pos hj,List.getElem?_drop]
theorem Ee{w:Nat}(hw: ∀ x,(c x).length=w)(h:l[i]? =some x)(hj:0<w):(fm c l)[i*w]? =(c x)[0]? :=by
  have:=yX (j:=0) hw h hj
  simpa using this
theorem Z5:fm c []=[]:=rfl
theorem Ef:fm c (x::l)=c x++fm c l:=by simp[fm]
theorem J5:fm c (l++l')=fm c l++fm c l':=by simp[fm]
theorem acS{y:AV}:(List.replicate i [y]).flatten=List.replicate i y:=by simp
end
section
variable {x y:Int} {k:IntKind}
theorem aiq:gW .add k k x y=some (.v (.int k (wk k (x+y)))):=by simp[gW,BinOp.lH,BinOp.mO,rZ,wk]
theorem aiz:gW .sub k k x y=some (.v (.int k (wk k (x - y)))):=by simp[gW,BinOp.lH,BinOp.mO,rZ,wk]
theorem ait:gW .mul k k x y=some (.v (.int k (wk k (x*y)))):=by simp[gW,BinOp.lH,BinOp.mO,rZ,wk]
theorem aiv(h:y≠0):gW .quo k k x y=some (.v (.int k (wk k (x.tdiv y)))):=by simp[gW,BinOp.lH,BinOp.mO,rZ,wk,h]
theorem aiw(h:y≠0):gW .rem k k x y=some (.v (.int k (x.tmod y))):=by simp[gW,BinOp.lH,BinOp.mO,rZ,h]
theorem air:gW .and k k x y=some (.v (.int k (band k x y))):=by simp[gW,BinOp.lH,BinOp.mO,rZ,wH,band]
theorem aiu:gW .or k k x y=some (.v (.int k (uQ k x y))):=by simp[gW,BinOp.lH,BinOp.mO,rZ,wH,uQ]
theorem aiA:gW .xor k k x y=some (.v (.int k (VX k x y))):=by simp[gW,BinOp.lH,BinOp.mO,rZ,wH,VX]
theorem ais:gW .andNot k k x y=some (.v (.int k (DN k x y))):=by simp[gW,BinOp.lH,BinOp.mO,rZ,wH,DN]
theorem aix{k':IntKind}(h:0≤y):gW .shl k k' x y=some (.v (.int k (oh k x y))):=by
  have: ¬ y<0:=ae
  simp[gW,BinOp.lH,Nk,oh,this]
theorem aiy{k':IntKind}(h:0≤y):gW .shr k k' x y=some (.v (.int k (jG k x y))):=by
  have: ¬ y<0:=ae
  simp[gW,BinOp.lH,Nk,jG,this]
theorem aAN(h1: -9223372036854775808<=x)(h2:x<9223372036854775808):wk .i64 x=x:=wrap64 h1 h2
variable {b b':Bool}
theorem ahr:yx .not (.v (.bool b))=some (.v (.bool !b)):=rfl
theorem ahq:yx .neg (.v (.int k x))=some (.v (.int k (wk k (0 - x)))):=rfl
theorem aen:Aj .eql b b'=some (.v (.bool (b==b'))):=rfl
theorem aeo:Aj .neq b b'=some (.v (.bool (!(b==b')))):=rfl
end
section
variable {P:Program} {C:bG} {cp:aC} {ci:bz} {lvl n:Nat} {e:Env} {h:Heap} {g:Id->Option ak} {α:Type} {f:α->AV} {c:α->List AV} {l:List α}
theorem att{t:TypeId}{off ext:Nat}{cl rw sz cells}:EF P t off ext (.sl cl rw sz ext cells)=part P cells t off:=by simp[EF,ak.ext,ak.cells]
theorem atr{t:TypeId}{off:Nat}{rw cells}:EF P t off 0 (.bx rw cells)=part P cells t off:=by simp[EF,ak.ext,ak.cells]
def yV(id:Id)(off ext:Nat)(o:Nat)(b:ak):Option AV:=if b.ext==ext then some (.ptr id (off+o) ext)else none
theorem aeE{s:TypeId}{i o:Nat}{ft:TypeId}{id:Id}{off ext:Nat}(hf:dR P s i=some (o,ft))(ht:(bD P ft=0)=False):nK P s g (.ptr id off ext) i=(g id).bind (yV id off ext o):=by
  simp only[nK,hf,ai,ht,if_false]
  have: ∀ b,g id=b→(if live g id ext=true then some (AV.ptr id (off+o) ext)else none)=b.bind (yV id off ext o):=fun b hb=>by
    unfold live
    rw[hb]
    cases b <;> rfl
  exact this _ rfl
theorem aeF{s:TypeId}{i o:Nat}{ft:TypeId}{xs:List AV}{off:Nat}(hf:dR P s i=some (o,ft))(ht:(bD P ft=0)=False):nK P s g (.ay xs off) i=some (.ay xs (off+o)):=by
  simp only[nK,hf,ai,ht,if_false]
theorem am0{id:Id}{off ext o:Nat}{cl rw sz cells}:yV id off ext o (.sl cl rw sz ext cells)=some (.ptr id (off+o) ext):=by simp[yV,ak.ext]
theorem amZ{id:Id}{off o:Nat}{rw cells}:yV id off 0 o (.bx rw cells)=some (.ptr id (off+o) 0):=by simp[yV,ak.ext]
theorem awv{t:TypeId}{xs:List AV}{off:Nat}(h1: ∀ y z,aX P t≠some (.array y t z))(hs:match aX P t with|some .struct=>False|some (.array _ _ _)=>False|none=>False|_=>True):part P xs t off=xs[off]? :=by
  unfold part
  cases ht:aX P t with
  |none=>rw[ht]at hs;exact hs.elim
  |some tv=>rw[ht]at hs;cases tv <;> first|rfl|exact hs.elim
theorem BZ{t:TypeId}{w:Nat}{xs:List AV}{off:Nat}(ht:aX P t=some .struct)(hw:bD P t=w):part P xs t off=if off+w≤xs.length then some (.agg ((xs.drop off).take w))else none:=by
  simp[part,ht,hw]
theorem art{t el:TypeId}{sz by_ m:Nat}{xs:List AV}{i:Int}(htv:aX P t=some (.slice el sz by_))(h0:0<=i)(h1:i<m):oJ P t g (.arr m xs) i=some (.ay xs (i.toNat*sz)):=aru htv h0 h1
theorem adi{t:TypeId}{id:Id}{off ext:Nat}{y:AV}(hsz:bD P t=1)(hc:y.cells=[y])(h1:AV.one y=true)(he:aG h.get 4 y=some y)(hb:aW h.get 4 y=[]):
    jQ P t h (.ptr id off ext) y=(h.get id).bind (nG h id off ext y):=by
  unfold jQ
  rw[if_pos ⟨by rw[hsz,hc];rfl,by rw[hsz];exact Nat.one_pos⟩]
  cases hg:h.get id with
  |none=>simp[lh,hg]
  | some b=>
    rw[ai]
    have h2:([y].mapM (aG h.get 4))=some [y]:=by simp[he]
    have h3:(([y].map (aW h.get 4)).flatten)=[]:=by simp[hb]
    have e1: ∀ o c:Nat,(o+1<=c)=(o<c):=λ_ _=>rfl
    cases b with
    | bx rw cells=>
      have e0:((0:Nat)=ext)=(ext=0):=propext ⟨Eq.symm,Eq.symm⟩
      simp only[lh,hg,ai,hc,ak.ext,ak.cells,List.length_cons,List.length_nil,List.all_cons,List.all_nil,h1,Bool.and_self,and_true,Nat.zero_add,e1,e0]
      cases rw with
      |false=>by_cases hh:ext=0/\off<cells.length <;> simp[hh,nG]
      |true=>by_cases hh:ext=0/\off<cells.length <;> simp[hh,nG,putCells]
    | sl cl rw sz e cells=>
      simp only[lh,hg,ai,hc,ak.ext,ak.cells,List.length_cons,List.length_nil,List.all_cons,List.all_nil,h1,Bool.and_self,and_true,Nat.zero_add,e1,h2,h3,dV]
      cases cl <;> cases rw <;> by_cases hh:e=ext/\off<cells.length <;> simp[hh,nG,putCells]
theorem azs{t:TypeId}{id:Id}{off ext:Nat}{z:Bool}(hsz:bD P t=1):jQ P t h (.ptr id off ext) (.v (.bool z))=(h.get id).bind (nG h id off ext (.v (.bool z))):=
  adi hsz rfl rfl rfl rfl
theorem azr{t:TypeId}{id:Id}{off ext m:Nat}{xs:List AV}(hsz:bD P t=1):jQ P t h (.ptr id off ext) (.arr m xs)=(h.get id).bind (nG h id off ext (.arr m xs)):=
  adi hsz rfl rfl rfl rfl
def zU(h:Heap)(id:Id)(off ext:Nat)(y:AV):ak→Option (AV×Heap)
  | .bx true cells=>if ext=0/\off<cells.length then some (.v undef,h.set id (.bx true (cells.set off y)))else none
  | .sl false true sz e cells=>if e=ext/\off<cells.length then some (.v undef,h.set id (.sl false true sz e (cells.set off y)))else none
  | .sl true true sz e cells=>if e=ext∧off<cells.length then(aG h.get 4 y).bind fun z=>((dV h (aW h.get 4 y)).get id).bind fun b=>match b with
      | .sl true true sz e cells=>some (.v undef,(dV h (aW h.get 4 y)).set id (.sl true true sz e (cells.set off z)))
      |_=>none
    else none
  |_=>none
theorem azu{t:TypeId}{id:Id}{off ext:Nat}{j:Id}{o m x:Nat}(hsz:bD P t=1):jQ P t h (.ptr id off ext) (.own j o m x)=(h.get id).bind (zU h id off ext (.own j o m x)):=by
  unfold jQ
  rw[if_pos ⟨by rw[hsz];rfl,by rw[hsz];exact Nat.one_pos⟩]
  have hc:(AV.own j o m x).cells=[.own j o m x]:=rfl
  have e1: ∀ o c:Nat,(o+1<=c)=(o<c):=λ_ _=>rfl
  cases hg:h.get id with
  |none=>simp[lh,hg]
  | some b=>
    rw[ai]
    cases b with
    | bx rw cells=>
      have e0:((0:Nat)=ext)=(ext=0):=propext ⟨Eq.symm,Eq.symm⟩
      simp only[lh,hg,ai,hc,ak.ext,ak.cells,List.length_cons,List.length_nil,List.all_cons,List.all_nil,AV.one,Bool.and_self,and_true,Nat.zero_add,e1,e0]
      cases rw with
      |false=>by_cases hh:ext=0/\off<cells.length <;> simp[hh,zU]
      |true=>by_cases hh:ext=0/\off<cells.length <;> simp[hh,zU,putCells]
    | sl cl rw sz e cells=>
      simp only[lh,hg,ai,hc,ak.ext,ak.cells,List.length_cons,List.length_nil,List.all_cons,List.all_nil,AV.one,Bool.and_self,and_true,Nat.zero_add,e1]
      cases cl <;> cases rw <;> by_cases hh:e=ext/\off<cells.length <;> simp only[hh,zU,and_self,if_true,if_false,ai,TZ] <;> try (simp[putCells];done)
      simp only[List.map_cons,List.map_nil,List.flatten_cons,List.flatten_nil,List.append_nil,List.mapM_cons,List.mapM_nil]
      cases aG h.get 4 (.own j o m x)with
      |none=>rfl
      | some z=>
        simp only[ai]
        show Option.bind (Option.bind (Heap.get (dV h (aW h.get 4 (.own j o m x))) id) _) _=_
        cases Heap.get (dV h (aW h.get 4 (.own j o m x))) id with
        |none=>rfl
        | some b=>
          simp only[ai]
          cases b with
          |bx=>rfl
          |sl c2 r2=>cases c2 <;> cases r2 <;> rfl
def CU(h:Heap)(id:Id)(off ext:Nat)(ys:List AV):ak→Option (AV×Heap)
  | .bx true cells=>if ext=0/\off+ys.length<=cells.length then some (.v undef,h.set id (.bx true (putCells cells off ys)))else none
  |_=>none
theorem azq{t:TypeId}{id:Id}{off ext:Nat}{ys:List AV}{rw:Bool}{cells:List AV}(hsz:bD P t=ys.length)(h0:0<ys.length)(h1:ys.all AV.one=true)(hg:h.get id=some (.bx rw cells)):
    jQ P t h (.ptr id off ext) (.agg ys)=CU h id off ext ys (.bx rw cells):=by
  unfold jQ
  rw[if_pos ⟨by rw[hsz];rfl,by rw[hsz];exact h0⟩]
  have hc:(AV.agg ys).cells=ys:=rfl
  have e0:((0:Nat)=ext)=(ext=0):=propext ⟨Eq.symm,Eq.symm⟩
  simp only[lh,hg,ai,hc,ak.ext,ak.cells,h1,and_true,e0]
  cases rw with
  |false=>by_cases hh:ext=0/\off+ys.length<=cells.length <;> simp[hh,CU]
  |true=>by_cases hh:ext=0/\off+ys.length<=cells.length <;> simp[hh,CU]
theorem azn{id:Id}{off ext:Nat}{y:AV}{cl:Bool}{sz:Nat}{cells:List AV}(ho:off<cells.length):nG h id off ext y (.sl cl true sz ext cells)=some (.v undef,h.set id (.sl cl true sz ext (cells.set off y))):=by
  cases cl <;> simp[nG,ho]
theorem azm{id:Id}{off:Nat}{y:AV}{cells:List AV}(ho:off<cells.length):nG h id off 0 y (.bx true cells)=some (.v undef,h.set id (.bx true (cells.set off y))):=by
  simp[nG,ho]
theorem azo{id:Id}{off:Nat}{y:AV}{cells:List AV}(ho:off<cells.length):zU h id off 0 y (.bx true cells)=some (.v undef,h.set id (.bx true (cells.set off y))):=by
  simp[zU,ho]
theorem adh{id:Id}{off:Nat}{ys:List AV}{cells:List AV}(ho:off+ys.length≤cells.length):CU h id off 0 ys (.bx true cells)=some (.v undef,h.set id (.bx true (putCells cells off ys))):=by
  simp[CU,ho]
theorem aw7{cells:List AV}{off:Nat}:putCells cells off []=cells:=rfl
theorem aw6{cells:List AV}{off:Nat}{y:AV}{ys:List AV}:putCells cells off (y::ys)=putCells (cells.set off y) (off+1) ys:=rfl
theorem arI{s d:Nat}{x:Value}{st:Nat×Heap}:bC lvl s d (.v x) st=some (.v x,st):=by cases d <;> rfl
theorem arB{s d m:Nat}{xs:List AV}{st:Nat×Heap}:bC lvl s d (.arr m xs) st=some (.arr m xs,st):=by cases d <;> rfl
theorem arE{s d o m x:Nat}{id:Id}{st:Nat×Heap}:bC lvl s d (.own id o m x) st=some (.own id o m x,st):=by cases d <;> rfl
theorem arF{s d o x:Nat}{id:Id}{st:Nat×Heap}:bC lvl s d (.ptr id o x) st=some (.ptr id o x,st):=by cases d <;> rfl
theorem arG{s d o:Nat}{xs:List AV}{st:Nat×Heap}:bC lvl s d (.ay xs o) st=some (.ay xs o,st):=by cases d <;> rfl
theorem arC{s d:Nat}{k a b}{st:Nat×Heap}:bC lvl s d (.fn k a b) st=some (.fn k a b,st):=by cases d <;> rfl
theorem aau{s d sz m k:Nat}{xs:List AV}:bC lvl s d (.fresh sz m xs) (k,h)=(uZ true lvl s k h sz m xs (h.get (lvl,s,k))).bind fun r=>some (r.1,k+1,r.2):=by
  rw[← KI]
  have:bC lvl s d (.fresh sz m xs) (k,h)=(h.new (lvl,s,lC h lvl s k) (.sl true true sz m xs)).bind λh'=>some (.own (lvl,s,lC h lvl s k) 0 m m,k+1,h'):=by cases d <;> rfl
  rw[this]
  cases h.new (lvl,s,lC h lvl s k) (.sl true true sz m xs) <;> rfl
theorem arD{s d sz m k:Nat}{xs:List AV}:bC lvl s d (.freshO sz m xs) (k,h)=(uZ false lvl s k h sz m xs (h.get (lvl,s,k))).bind fun r=>some (r.1,k+1,r.2):=by
  rw[← KI]
  have:bC lvl s d (.freshO sz m xs) (k,h)=(h.new (lvl,s,lC h lvl s k) (.sl false true sz m xs)).bind λh'=>some (.own (lvl,s,lC h lvl s k) 0 m m,k+1,h'):=by cases d <;> rfl
  rw[this]
  cases h.new (lvl,s,lC h lvl s k) (.sl false true sz m xs) <;> rfl
theorem arA{s d:Nat}{xs:List AV}{st:Nat×Heap}:bC lvl s (d+1) (.agg xs) st=(fE (bC lvl s d) xs st).bind λr=>some (.agg r.1,r.2):=rfl
theorem arH{s d:Nat}{xs:List AV}{st:Nat×Heap}:bC lvl s (d+1) (.tuple xs) st=(fE (bC lvl s d) xs st).bind λr=>some (.tuple r.1,r.2):=rfl
theorem aui{S:Type}{F:AV->S->Option (AV×S)}{s:S}:fE F [] s=some ([],s):=rfl
theorem auh{S:Type}{F:AV->S->Option (AV×S)}{s:S}{x:AV}{xs:List AV}:fE F (x::xs) s=(F x s).bind λr=>(fE F xs r.2).bind λq=>some (r.1::q.1,q.2):=rfl
theorem axb{d:Nat}{xs:List AV}:qo lvl d h (some (.agg xs))=(fE (bC lvl d 3) xs (0,h)).bind fun r=>some (.agg r.1,r.2.2):=by
  show((fE (bC lvl d 3) xs (0,h)).bind λr=>some (AV.agg r.1,r.2)).bind _=_
  cases fE (bC lvl d 3) xs (0,h) <;> rfl
theorem axl{d:Nat}{xs:List AV}:qo lvl d h (some (.tuple xs))=(fE (bC lvl d 3) xs (0,h)).bind fun r=>some (.tuple r.1,r.2.2):=by
  show((fE (bC lvl d 3) xs (0,h)).bind λr=>some (AV.tuple r.1,r.2)).bind _=_
  cases fE (bC lvl d 3) xs (0,h) <;> rfl
theorem axg{d:Nat}{xs:List AV}:qo lvl d h (some (.newbx xs))=(fE (bC lvl d 3) xs (0,h)).bind fun r=>(r.2.2.new (lvl,d,r.2.1) (.bx true r.1)).bind fun h'=>some (.ptr (lvl,d,r.2.1) 0 0,h'):=by
  show((fE (bC lvl d 3) xs (0,h)).bind λr=>(r.2.2.new (lvl,d,r.2.1) (.bx true r.1)).bind λh'=>some (AV.ptr (lvl,d,r.2.1) 0 0,r.2.1+1,h')).bind _=_
  cases fE (bC lvl d 3) xs (0,h)with
  |none=>rfl
  |some r=>simp only[ai];cases r.2.2.new (lvl,d,r.2.1) (.bx true r.1) <;> rfl
theorem axf{d sz m xs}:qo lvl d h (some (.freshO sz m xs))=uZ false lvl d 0 h sz m xs (h.get (lvl,d,0)):=by
  rw[← KI]
  simp only[qo,bC]
  cases h.new (lvl,d,lC h lvl d 0) (.sl false true sz m xs) <;> rfl
theorem afx{d:Option Tmp}{t:TypeId}{z:List AV}(hz:dU P t=some z):dw P C cp ci lvl e h d (.alloc t)=qo lvl (d.getD 0) h (some (.newbx z)):=by
  rw[kw (λ_ _ _ h=>by cases h) rfl]
  simp only[aq,hz,ai]
def DV(y:AV):Option AV:=if y.cells.all AV.one=true then some (.newbx y.cells)else none
theorem afC{d:Option Tmp}{t:TypeId}{x:Operand}:dw P C cp ci lvl e h d (.box t x)=qo lvl (d.getD 0) h ((aB e.get x).bind DV):=kw (λ_ _ _ h=>by cases h) rfl
theorem ah6{y:AV}(h1:y.cells.all AV.one=true):DV y=some (.newbx y.cells):=by simp[DV,h1]
theorem akt{xs:List AV}:(AV.agg xs).cells=xs:=rfl
theorem aku{m:Nat}{xs:List AV}:(AV.arr m xs).cells=[.arr m xs]:=rfl
theorem aky{id:Id}{o m x:Nat}:(AV.own id o m x).cells=[.own id o m x]:=rfl
theorem akA{o:Nat}{xs:List AV}:(AV.ay xs o).cells=[.ay xs o]:=rfl
theorem akz{id:Id}{o x:Nat}:(AV.ptr id o x).cells=[.ptr id o x]:=rfl
theorem akw{k a b}:(AV.fn k a b).cells=[.fn k a b]:=rfl
def lS(lvl d:Nat)(esz by_:Nat)(h:Heap)(m:Nat)(ys:List AV)(id:Id)(n ext:Nat):ak→Option (AV×Heap)
  | .sl true true sz ext' cells=>
    if ext'=n∧ext=n∧sz=esz∧ys.length=m*esz∧n+m≤2 ^ 47∧(n+m)*by_≤2 ^ 47∧ys.all AV.one=true then
      some (.own id 0 (n+m) (n+m),h.set id (.sl true true sz (n+m) (cells++ys)))
    else none
  |_=>none
def appJ(lvl d:Nat)(esz by_:Nat)(h0 h:Heap)(y:AV)(m:Nat)(ys:List AV)(id:Id)(n ext:Nat):ak→Option (AV×Heap)
  | .sl false true _ _ _=>DJ h0 id n ext esz by_ y
  |b=>lS lvl d esz by_ h m ys id n ext b
def yl (lvl d:Nat)(esz by_:Nat)(h:Heap)(x y:AV)(q:List Id)(r:Nat×List AV):Option (AV×Heap):=
  match x with
  | .own id 0 n ext=>((dV h q).get id).bind (appJ lvl d esz by_ h (dV h q) y r.1 r.2 id n ext)
  | .v (.slice none 0 0)=>if r.1*by_≤2 ^ 47∧r.2.length=r.1*esz∧r.1≤2 ^ 47 then
            (bC lvl d 4 (.fresh esz r.1 r.2) (0,dV h q)).bind λ(z,_,h')=>some (z,h')
          else none
  |_=>none
def rY(P:Program)(lvl d:Nat)(t t':TypeId)(h:Heap)(x y:AV):Option (AV×Heap):=if t=t' then(aX P t).bind fun tv=>match tv with
    | .slice el esz by_=>(dU P el).bind λz=>if z.length=esz/\0<esz then(l7 h.get y).bind (yl lvl d esz by_ h x y (inner h.get y))else none
    |_=>none
    else(aX P t).bind λtv=>(aX P t').bind λtv'=>Gz P lvl h d tv tv' [x,y]
theorem afy {d :Option Tmp}{a b:Operand}{t t':TypeId}:dw P C cp ci lvl e h d (.call ⟨.builtin .append,⟨[a,b]⟩,#[t,t']⟩)=
    (aB e.get a).bind λx=>(aB e.get b).bind λy=>rY P lvl (d.getD 0) t t' h x y:=by
  rw[afz]
  simp only[aS,aZ]
  cases aB e.get a with
  |none=>rfl
  | some x=>
    cases aB e.get b with
    |none=>rfl
    | some y=>
      have ht0:(#[t,t'])[0]? =some t:=rfl
      have ht1:(#[t,t'])[1]? =some t':=rfl
      simp only[ai,ht0,ht1,rY]
      by_cases htt:t=t'
      · rw [if_pos htt,if_pos htt]
        cases aX P t with
        |none=>rfl
        | some tv =>
          simp only[ai]
          cases tv <;> try rfl
          rename_i el esz by_
          simp only
          cases dU P el with
          |none=>rfl
          | some z=>
            simp only[ai]
            by_cases hz:z.length=esz/\0<esz
            · rw [if_pos hz,if_pos hz]
              unfold yl
              split
              · rename_i id n ext y' heq
                injection heq with h1 h2
                injection h2 with h2 _
                subst h1 h2
                cases l7 h.get y with
                |none=>rfl
                | some r=>
                  simp only[ai]
                  cases Heap.get (dV h (inner h.get y)) id with
                  |none=>rfl
                  | some b=>cases b with
                    |bx=>rfl
                    |sl cl rw=>cases cl <;> cases rw <;> rfl
              · rename_i y' heq
                injection heq with h1 h2
                injection h2 with h2 _
                subst h1 h2
                cases l7 h.get y with
                |none=>rfl
                |some r=>rfl
              · rename_i h1 h2
                cases l7 h.get y with
                |none=>rfl
                | some r=>
                  simp only[ai]
                  split
                  · rename_i id n ext
                    exact absurd rfl (h1 id n ext y)
                  · exact absurd rfl (h2 y)
                  · rfl
            · rw[if_neg hz,if_neg hz]
      · rw[if_neg htt,if_neg htt]
theorem agD{t el:TypeId}{esz by_ d:Nat}{x y:AV}{z:List AV}(htv:aX P t=some (.slice el esz by_))(hz:dU P el=some z)(hl:z.length=esz)(h0:0<esz):
    rY P lvl d t t h x y=(l7 h.get y).bind (yl lvl d esz by_ h x y (inner h.get y)):=by
  simp only[rY,htv,ai,hz,if_true]
  rw[if_pos ⟨hl,h0⟩]
theorem agz{d esz by_:Nat}{y:AV}{id:Id}{n ext:Nat}{q:List Id}{r:Nat×List AV}:yl lvl d esz by_ h (.own id 0 n ext) y q r=((dV h q).get id).bind (appJ lvl d esz by_ h (dV h q) y r.1 r.2 id n ext):=rfl
theorem agw{d esz by_ m:Nat}{h0:Heap}{y:AV}{ys:List AV}{id:Id}{n ext:Nat}{rw:Bool}{sz e:Nat}{cells:List AV}:appJ lvl d esz by_ h0 h y m ys id n ext (.sl true rw sz e cells)=lS lvl d esz by_ h m ys id n ext (.sl true rw sz e cells):=by cases rw <;> rfl
theorem agy{d esz by_:Nat}{y:AV}{q:List Id}{r:Nat×List AV}(h1:r.1*by_≤140737488355328)(h2:r.2.length=r.1*esz)(h3:r.1≤140737488355328):
    yl lvl d esz by_ h (.v (.slice none 0 0)) y q r=uZ true lvl d 0 (dV h q) esz r.1 r.2 ((dV h q).get (lvl,d,0)):=by
  simp only[yl]
  rw[if_pos ⟨by omega,h2,by omega⟩,aau]
  cases uZ true lvl d 0 (dV h q) esz r.1 r.2 ((dV h q).get (lvl,d,0)) <;> rfl
theorem yj{d esz by_ m:Nat}{id:Id}{n:Nat}{cells ys:List AV}(h2:ys.length=m*esz)(h3:n+m≤140737488355328)(h4:(n+m)*by_≤140737488355328)(h5:ys.all AV.one=true):
    lS lvl d esz by_ h m ys id n n (.sl true true esz n cells)=some (.own id 0 (n+m) (n+m),h.set id (.sl true true esz (n+m) (cells++ys))):=by
  simp only[lS]
  rw[if_pos ⟨trivial,trivial,trivial,h2,by omega,by omega,h5⟩]
theorem abx{l:List Int}{k:IntKind}:(lm (ik k) l).all AV.one=true:=by simp[lm,ik,AV.one]
theorem abu{l:List Bool}:(lm bk l).all AV.one=true:=by simp[lm,bk,AV.one]
theorem abt{l:List (List α)}:(lm (eP f) l).all AV.one=true:=by simp[lm,eP,AV.one]
theorem abr{l:List (List α)}:(lm (AB c) l).all AV.one=true:=by simp[lm,AB,AV.one]
theorem qc(hc: ∀ x,(c x).all AV.one=true):(fm c l).all AV.one=true:=by
  induction l with
  |nil=>rfl
  |cons x l ih=>rw[Ef,List.all_append,hc,ih];rfl
theorem auU{m:Nat}{xs:List AV}:l7 g (.arr m xs)=some (m,xs):=by simp[l7,aG]
theorem auV{cc:Nat}:l7 g (.v (.slice none 0 cc))=some (0,[]):=rfl
def EP(g:Id→Option ak)(off m ext:Nat)(b:ak):Option (Nat×List AV):=(JY g off m ext b).bind fun y=>match y with
  | .arr n xs=>some (n,xs)
  |_=>none
theorem auW{id:Id}{off m ext:Nat}:l7 g (.own id off m ext)=(g id).bind (EP g off m ext):=by
  simp only[l7,amM]
  cases g id <;> rfl
theorem auQ{off m ext r sz cells}:EP g off m ext (.sl true r sz ext cells)=some (m,cut cells off m sz ext):=by simp[EP,JY]
def Lm(g:Id→Option ak):Option ak→List Id
  |some (.sl false _ _ _ cells)=>(cells.map (aW g 3)).flatten
  |_=>[]
theorem arP{id:Id}{off m ext:Nat}:inner g (.own id off m ext)=Lm g (g id):=by
  simp only[inner,Lm]
  split <;> rename_i hh <;> split <;> rename_i hk
  · rw[hh]at hk;injection hk with hk;injection hk with _ _ _ _ hk;rw[hk]
  · exact absurd hh (hk _ _ _ _)
  · exact absurd hk (hh _ _ _ _)
  · rfl
theorem arL{r sz ext cells}:Lm g (some (.sl true r sz ext cells))=[]:=rfl
theorem arN{m:Nat}{xs:List AV}:inner g (.arr m xs)=[]:=rfl
theorem arO{cc:Nat}:inner g (.v (.slice none 0 cc))=[]:=rfl
theorem ao1:dV h []=h:=rfl
def fzB(h:Heap)(i:Id)(is:List Id):Option ak→Heap
  |some b=>dV (h.set i b.freeze) is
  |none=>dV h is
theorem ao0{i:Id}{is:List Id}:dV h (i::is)=fzB h i is (h.get i):=by
  show(match h.get i with|some b=>dV (h.set i b.freeze) is|none=>dV h is)=_
  cases h.get i <;> rfl
theorem aoX{i:Id}{is:List Id}{b:ak}:fzB h i is (some b)=dV (h.set i b.freeze) is:=rfl
theorem aoV{cl rw sz ext cells}:(ak.sl cl rw sz ext cells).freeze= .sl cl false sz ext cells:=rfl
theorem aoU{rw cells}:(ak.bx rw cells).freeze= .bx false cells:=rfl
end
end Go.Av
