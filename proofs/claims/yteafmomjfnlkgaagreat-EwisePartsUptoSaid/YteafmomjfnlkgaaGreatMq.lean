/- Lists as the interpreter's data; more equations. Conditions: those that each names. -/
import Derived.Test.YteafmomjfnlkgaaGreatMx
set_option linter.unusedVariables false
set_option linter.defProp false
namespace Go.Av
def ik(k:IntKind)(x:Int):AV:= .v (.int k x)
def bk(b:Bool):AV:= .v (.bool b)
def lm{α:Type}(f:α->AV)(l:List α):List AV:=l.map f
def fm{α:Type}(c:α->List AV)(l:List α):List AV:=l.flatMap c
def jh{α:Type}(f:α->AV)(l:List α):AV:= .arr l.length (lm f l)
def Ed{α:Type}(c:α->List AV)(l:List α):AV:= .arr l.length (fm c l)
def frl{α:Type}(f:α->AV)(l:List α):AV:= .fresh 1 l.length (lm f l)
def wk(k:IntKind)(x:Int):Int:=k.wrap x
def band(k:IntKind)(a b:Int):Int:=k.wrap (BitVec.ofInt k.bits a &&& BitVec.ofInt k.bits b).toNat
def gy(k:IntKind)(a b:Int):Int:=k.wrap (BitVec.ofInt k.bits a ||| BitVec.ofInt k.bits b).toNat
def yY(k:IntKind)(a b:Int):Int:=k.wrap (BitVec.ofInt k.bits a ^^^ BitVec.ofInt k.bits b).toNat
def uM(k:IntKind)(a b:Int):Int:=k.wrap (BitVec.ofInt k.bits a &&& ~~~BitVec.ofInt k.bits b).toNat
def bY(k:IntKind)(a b:Int):Int:=k.wrap (a*2 ^ (min b.toNat k.bits))
def aZ(k:IntKind)(a b:Int):Int:=a.fdiv (2 ^ (min b.toNat k.bits))
def sub{α:Type}(l:List α)(lo hi:Int):List α:=(l.drop lo.toNat).take (hi.toNat - lo.toNat)
section
variable {α:Type} {f:α->AV} {c:α->List AV} {l l':List α} {x:α} {i:Nat}
theorem TI:(lm f l).length=l.length:=by simp[lm]
theorem KO(h:l[i]? =some x):(lm f l)[i]? =some (f x):=by simp[lm,h]
theorem fV{l:List Int}{x:Int}{k:IntKind}(h:l[i]? =some x):(lm (ik k) l)[i]? =some (.v (.int k x)):=KO h
theorem VA{l:List Bool}{x:Bool}(h:l[i]? =some x):(lm bk l)[i]? =some (.v (.bool x)):=KO h
theorem an4{l:List (List α)}{x:List α}(h:l[i]? =some x):(lm (jh f) l)[i]? =some (.arr x.length (lm f x)):=KO h
theorem aE7{l:List (List α)}{x:List α}(h:l[i]? =some x):(lm (Ed c) l)[i]? =some (.arr x.length (fm c x)):=KO h
theorem anu:lm f []=[]:=rfl
theorem aDf:lm f (x::l)=f x::lm f l:=rfl
theorem ad7:lm f (l++l')=lm f l++lm f l':=by simp[lm]
theorem aBI{l:List Int}{x:Int}{k:IntKind}:(lm (ik k) l).set i (.v (.int k x))=lm (ik k) (l.set i x):=by simp[lm,ik,List.map_set]
theorem aBb{l:List Bool}{x:Bool}:(lm bk l).set i (.v (.bool x))=lm bk (l.set i x):=by simp[lm,bk,List.map_set]
theorem aCZ{l:List (List α)}{x:List α}:(lm (jh f) l).set i (.arr x.length (lm f x))=lm (jh f) (l.set i x):=by simp[lm,jh,List.map_set]
theorem akn:List.replicate i (f x)=lm f (List.replicate i x):=by simp[lm]
theorem aj3{k:IntKind}{x:Int}:ik k x= .v (.int k x):=rfl
theorem agw{b:Bool}:bk b= .v (.bool b):=rfl
theorem Ec{w:Nat}(hw: ∀ x,(c x).length=w):(fm c l).length=l.length*w:=by
  induction l with
  |nil=>simp[fm]
  |cons x l ih=>simp only[fm,List.flatMap_cons,List.length_append]at ih ⊢;rw[hw,ih,List.length_cons,Nat.succ_mul];omega
theorem Ah{w:Nat}(hw: ∀ x,(c x).length=w)(h:l[i]? =some x):((fm c l).drop (i*w)).take w=c x:=by
  induction l generalizing i with
  |nil=>simp at h
  | cons y l ih=>
    have hf:fm c (y::l)=c y++fm c l:=by simp[fm]
    cases i with
    | zero=>
      simp at h;subst h
      simp[hf,hw]
    | succ i=>
      rw[List.getElem?_cons_succ]at h
      have h2:(fm c (y::l)).drop ((i+1)*w)=(fm c l).drop (i*w):=by
        rw[hf,show(i+1)*w=(c y).length+i*w by rw[hw,Nat.succ_mul];omega,← List.drop_drop,List.drop_left]
      rw[h2]
      exact ih h
theorem Dt{w:Nat}(hw: ∀ x,(c x).length=w)(h:l[i]? =some x):(i*w+w≤(fm c l).length)=True:=by
  rw[Ec hw]
  refine eq_true ?_
  have:=(List.getElem?_eq_some_iff.1 h).1
  calc i*w+w=(i+1)*w:=by rw[Nat.succ_mul]
    _<=l.length*w:=Nat.mul_le_mul_right _ this
theorem BO{w j:Nat}(hw: ∀ x,(c x).length=w)(h:l[i]? =some x)(hj:j<w):(fm c l)[i*w+j]? =(c x)[j]? :=by
  rw[← Ah hw h,List.getElem?_take,if_pos hj,List.getElem?_drop]
theorem Gh{w:Nat}(hw: ∀ x,(c x).length=w)(h:l[i]? =some x)(hj:0<w):(fm c l)[i*w]? =(c x)[0]? :=by
  have:=BO (j:=0) hw h hj
  simpa using this
theorem aFe:fm c []=[]:=rfl
theorem MK:fm c (x::l)=c x++fm c l:=by simp[fm]
theorem MC:fm c (l++l')=fm c l++fm c l':=by simp[fm]
theorem amz{y:AV}:(List.replicate i [y]).flatten=List.replicate i y:=by simp
end
section
variable {x y:Int} {k:IntKind}
theorem aFN:eX .add k k x y=some (.v (.int k (wk k (x+y)))):=by simp[eX,BinOp.kH,BinOp.l7,rY,wk]
theorem aDO:eX .sub k k x y=some (.v (.int k (wk k (x - y)))):=by simp[eX,BinOp.kH,BinOp.l7,rY,wk]
theorem aHR:eX .mul k k x y=some (.v (.int k (wk k (x*y)))):=by simp[eX,BinOp.kH,BinOp.l7,rY,wk]
theorem aDK(h:y≠0):eX .quo k k x y=some (.v (.int k (wk k (x.tdiv y)))):=by simp[eX,BinOp.kH,BinOp.l7,rY,wk,h]
theorem axM(h:y≠0):eX .rem k k x y=some (.v (.int k (x.tmod y))):=by simp[eX,BinOp.kH,BinOp.l7,rY,h]
theorem aJD:eX .and k k x y=some (.v (.int k (band k x y))):=by simp[eX,BinOp.kH,BinOp.l7,rY,yC,band]
theorem aGM:eX .or k k x y=some (.v (.int k (gy k x y))):=by simp[eX,BinOp.kH,BinOp.l7,rY,yC,gy]
theorem aCW:eX .xor k k x y=some (.v (.int k (yY k x y))):=by simp[eX,BinOp.kH,BinOp.l7,rY,yC,yY]
theorem aKJ:eX .andNot k k x y=some (.v (.int k (uM k x y))):=by simp[eX,BinOp.kH,BinOp.l7,rY,yC,uM]
theorem avk{k':IntKind}(h:0≤y):eX .shl k k' x y=some (.v (.int k (bY k x y))):=by
  have: ¬ y<0:=by omega
  simp[eX,BinOp.kH,Np,bY,this]
theorem aJu{k':IntKind}(h:0≤y):eX .shr k k' x y=some (.v (.int k (aZ k x y))):=by
  have: ¬ y<0:=by omega
  simp[eX,BinOp.kH,Np,aZ,this]
theorem apI(h1: -9223372036854775808<=x)(h2:x<9223372036854775808):wk .i64 x=x:=wrap64 h1 h2
variable {b b':Bool}
theorem aw2:AQ .not (.v (.bool b))=some (.v (.bool !b)):=rfl
theorem aru:AQ .neg (.v (.int k x))=some (.v (.int k (wk k (0 - x)))):=rfl
theorem anq:Eg .eql b b'=some (.v (.bool (b==b'))):=rfl
theorem aIx:Eg .neq b b'=some (.v (.bool (!(b==b')))):=rfl
end
section
variable {P:Program} {C:bn} {cp:af} {ci:bg} {lvl n:Nat} {e:Env} {h:Heap} {g:Id->Option ax} {α:Type} {f:α->AV} {c:α->List AV} {l:List α}
theorem arL{t:TypeId}{off ext:Nat}{cl rw sz cells}:IU P t off ext (.sl cl rw sz ext cells)=part P cells t off:=by simp[IU,ax.ext,ax.cells]
theorem aHJ{t:TypeId}{off:Nat}{rw cells}:IU P t off 0 (.bx rw cells)=part P cells t off:=by simp[IU,ax.ext,ax.cells]
def Bo(id:Id)(off ext:Nat)(o:Nat)(b:ax):Option AV:=if b.ext==ext then some (.ptr id (off+o) ext)else none
theorem apH{s:TypeId}{i o:Nat}{ft:TypeId}{id:Id}{off ext:Nat}(hf:dh P s i=some (o,ft))(ht:(bi P ft=0)=False):ng P s g (.ptr id off ext) i=(g id).bind (Bo id off ext o):=by
  simp only[ng,hf,ob_some,ht,if_false]
  have: ∀ b,g id=b→(if live g id ext=true then some (AV.ptr id (off+o) ext)else none)=b.bind (Bo id off ext o):=fun b hb=>by
    unfold live
    rw[hb]
    cases b <;> rfl
  exact this _ rfl
theorem anY{s:TypeId}{i o:Nat}{ft:TypeId}{xs:List AV}{off:Nat}(hf:dh P s i=some (o,ft))(ht:(bi P ft=0)=False):ng P s g (.aF xs off) i=some (.aF xs (off+o)):=by
  simp only[ng,hf,ob_some,ht,if_false]
theorem auV{id:Id}{off ext o:Nat}{cl rw sz cells}:Bo id off ext o (.sl cl rw sz ext cells)=some (.ptr id (off+o) ext):=by simp[Bo,ax.ext]
theorem aCO{id:Id}{off o:Nat}{rw cells}:Bo id off 0 o (.bx rw cells)=some (.ptr id (off+o) 0):=by simp[Bo,ax.ext]
theorem aCE{t:TypeId}{xs:List AV}{off:Nat}(h1: ∀ y z,aP P t≠some (.array y t z))(hs:match aP P t with|some .struct=>False|some (.array _ _ _)=>False|none=>False|_=>True):part P xs t off=xs[off]? :=by
  unfold part
  cases ht:aP P t with
  |none=>rw[ht]at hs;exact hs.elim
  |some tv=>rw[ht]at hs;cases tv <;> first|rfl|exact hs.elim
theorem xA{t:TypeId}{w:Nat}{xs:List AV}{off:Nat}(ht:aP P t=some .struct)(hw:bi P t=w):part P xs t off=if off+w≤xs.length then some (.agg ((xs.drop off).take w))else none:=by
  simp[part,ht,hw]
theorem aLp{t el:TypeId}{sz by_ m:Nat}{xs:List AV}{i:Int}(htv:aP P t=some (.slice el sz by_))(h0:0<=i)(h1:i<m):oH P t g (.arr m xs) i=some (.aF xs (i.toNat*sz)):=axI htv h0 h1
theorem aes{t:TypeId}{id:Id}{off ext:Nat}{y:AV}(hsz:bi P t=1)(hc:y.cells=[y])(h1:AV.one y=true)(he:aG h.get 4 y=some y)(hb:aO h.get 4 y=[]):
    iK P t h (.ptr id off ext) y=(h.get id).bind (mf h id off ext y):=by
  unfold iK
  rw[if_pos ⟨by rw[hsz,hc];rfl,by rw[hsz];exact Nat.one_pos⟩]
  cases hg:h.get id with
  |none=>simp[jY,hg]
  | some b=>
    rw[ob_some]
    have h2:([y].mapM (aG h.get 4))=some [y]:=by simp[he]
    have h3:(([y].map (aO h.get 4)).flatten)=[]:=by simp[hb]
    have e1: ∀ o c:Nat,(o+1<=c)=(o<c):=λ_ _=>rfl
    cases b with
    | bx rw cells=>
      have e0:((0:Nat)=ext)=(ext=0):=propext ⟨Eq.symm,Eq.symm⟩
      simp only[jY,hg,ob_some,hc,ax.ext,ax.cells,List.length_cons,List.length_nil,List.all_cons,List.all_nil,h1,Bool.and_self,and_true,Nat.zero_add,e1,e0]
      cases rw with
      |false=>by_cases hh:ext=0/\off<cells.length <;> simp[hh,mf]
      |true=>by_cases hh:ext=0/\off<cells.length <;> simp[hh,mf,putCells]
    | sl cl rw sz e cells=>
      simp only[jY,hg,ob_some,hc,ax.ext,ax.cells,List.length_cons,List.length_nil,List.all_cons,List.all_nil,h1,Bool.and_self,and_true,Nat.zero_add,e1,h2,h3,dH]
      cases cl <;> cases rw <;> by_cases hh:e=ext/\off<cells.length <;> simp[hh,mf,putCells]
theorem aEG{t:TypeId}{id:Id}{off ext:Nat}{z:Bool}(hsz:bi P t=1):iK P t h (.ptr id off ext) (.v (.bool z))=(h.get id).bind (mf h id off ext (.v (.bool z))):=
  aes hsz rfl rfl rfl rfl
theorem aul{t:TypeId}{id:Id}{off ext m:Nat}{xs:List AV}(hsz:bi P t=1):iK P t h (.ptr id off ext) (.arr m xs)=(h.get id).bind (mf h id off ext (.arr m xs)):=
  aes hsz rfl rfl rfl rfl
def zY(h:Heap)(id:Id)(off ext:Nat)(y:AV):ax→Option (AV×Heap)
  | .bx true cells=>if ext=0/\off<cells.length then some (.v undef,h.set id (.bx true (cells.set off y)))else none
  | .sl false true sz e cells=>if e=ext/\off<cells.length then some (.v undef,h.set id (.sl false true sz e (cells.set off y)))else none
  | .sl true true sz e cells=>if e=ext∧off<cells.length then(aG h.get 4 y).bind fun z=>((dH h (aO h.get 4 y)).get id).bind fun b=>match b with
      | .sl true true sz e cells=>some (.v undef,(dH h (aO h.get 4 y)).set id (.sl true true sz e (cells.set off z)))
      |_=>none
    else none
  |_=>none
theorem aFJ{t:TypeId}{id:Id}{off ext:Nat}{j:Id}{o m x:Nat}(hsz:bi P t=1):iK P t h (.ptr id off ext) (.own j o m x)=(h.get id).bind (zY h id off ext (.own j o m x)):=by
  unfold iK
  rw[if_pos ⟨by rw[hsz];rfl,by rw[hsz];exact Nat.one_pos⟩]
  have hc:(AV.own j o m x).cells=[.own j o m x]:=rfl
  have e1: ∀ o c:Nat,(o+1<=c)=(o<c):=λ_ _=>rfl
  cases hg:h.get id with
  |none=>simp[jY,hg]
  | some b=>
    rw[ob_some]
    cases b with
    | bx rw cells=>
      have e0:((0:Nat)=ext)=(ext=0):=propext ⟨Eq.symm,Eq.symm⟩
      simp only[jY,hg,ob_some,hc,ax.ext,ax.cells,List.length_cons,List.length_nil,List.all_cons,List.all_nil,AV.one,Bool.and_self,and_true,Nat.zero_add,e1,e0]
      cases rw with
      |false=>by_cases hh:ext=0/\off<cells.length <;> simp[hh,zY]
      |true=>by_cases hh:ext=0/\off<cells.length <;> simp[hh,zY,putCells]
    | sl cl rw sz e cells=>
      simp only[jY,hg,ob_some,hc,ax.ext,ax.cells,List.length_cons,List.length_nil,List.all_cons,List.all_nil,AV.one,Bool.and_self,and_true,Nat.zero_add,e1]
      cases cl <;> cases rw <;> by_cases hh:e=ext/\off<cells.length <;> simp only[hh,zY,and_self,if_true,if_false,ob_some,Vd] <;> try (simp[putCells];done)
      simp only[List.map_cons,List.map_nil,List.flatten_cons,List.flatten_nil,List.append_nil,List.mapM_cons,List.mapM_nil]
      cases aG h.get 4 (.own j o m x)with
      |none=>rfl
      | some z=>
        simp only[ob_some]
        show Option.bind (Option.bind (Heap.get (dH h (aO h.get 4 (.own j o m x))) id) _) _=_
        cases Heap.get (dH h (aO h.get 4 (.own j o m x))) id with
        |none=>rfl
        | some b=>
          simp only[ob_some]
          cases b with
          |bx=>rfl
          |sl c2 r2=>cases c2 <;> cases r2 <;> rfl
def Es(h:Heap)(id:Id)(off ext:Nat)(ys:List AV):ax→Option (AV×Heap)
  | .bx true cells=>if ext=0/\off+ys.length<=cells.length then some (.v undef,h.set id (.bx true (putCells cells off ys)))else none
  |_=>none
theorem aEF{t:TypeId}{id:Id}{off ext:Nat}{ys:List AV}{rw:Bool}{cells:List AV}(hsz:bi P t=ys.length)(h0:0<ys.length)(h1:ys.all AV.one=true)(hg:h.get id=some (.bx rw cells)):
    iK P t h (.ptr id off ext) (.agg ys)=Es h id off ext ys (.bx rw cells):=by
  unfold iK
  rw[if_pos ⟨by rw[hsz];rfl,by rw[hsz];exact h0⟩]
  have hc:(AV.agg ys).cells=ys:=rfl
  have e0:((0:Nat)=ext)=(ext=0):=propext ⟨Eq.symm,Eq.symm⟩
  simp only[jY,hg,ob_some,hc,ax.ext,ax.cells,h1,and_true,e0]
  cases rw with
  |false=>by_cases hh:ext=0/\off+ys.length<=cells.length <;> simp[hh,Es]
  |true=>by_cases hh:ext=0/\off+ys.length<=cells.length <;> simp[hh,Es]
theorem aKj{id:Id}{off ext:Nat}{y:AV}{cl:Bool}{sz:Nat}{cells:List AV}(ho:off<cells.length):mf h id off ext y (.sl cl true sz ext cells)=some (.v undef,h.set id (.sl cl true sz ext (cells.set off y))):=by
  cases cl <;> simp[mf,ho]
theorem aKW{id:Id}{off:Nat}{y:AV}{cells:List AV}(ho:off<cells.length):mf h id off 0 y (.bx true cells)=some (.v undef,h.set id (.bx true (cells.set off y))):=by
  simp[mf,ho]
theorem aGH{id:Id}{off:Nat}{y:AV}{cells:List AV}(ho:off<cells.length):zY h id off 0 y (.bx true cells)=some (.v undef,h.set id (.bx true (cells.set off y))):=by
  simp[zY,ho]
theorem akR{id:Id}{off:Nat}{ys:List AV}{cells:List AV}(ho:off+ys.length≤cells.length):Es h id off 0 ys (.bx true cells)=some (.v undef,h.set id (.bx true (putCells cells off ys))):=by
  simp[Es,ho]
theorem aGD{cells:List AV}{off:Nat}:putCells cells off []=cells:=rfl
theorem awL{cells:List AV}{off:Nat}{y:AV}{ys:List AV}:putCells cells off (y::ys)=putCells (cells.set off y) (off+1) ys:=rfl
theorem asU{s d:Nat}{x:Value}{st:Nat×Heap}:aT lvl s d (.v x) st=some (.v x,st):=by cases d <;> rfl
theorem ax2{s d m:Nat}{xs:List AV}{st:Nat×Heap}:aT lvl s d (.arr m xs) st=some (.arr m xs,st):=by cases d <;> rfl
theorem au9{s d o m x:Nat}{id:Id}{st:Nat×Heap}:aT lvl s d (.own id o m x) st=some (.own id o m x,st):=by cases d <;> rfl
theorem an3{s d o x:Nat}{id:Id}{st:Nat×Heap}:aT lvl s d (.ptr id o x) st=some (.ptr id o x,st):=by cases d <;> rfl
theorem aHO{s d o:Nat}{xs:List AV}{st:Nat×Heap}:aT lvl s d (.aF xs o) st=some (.aF xs o,st):=by cases d <;> rfl
theorem asL{s d:Nat}{k a b}{st:Nat×Heap}:aT lvl s d (.fn k a b) st=some (.fn k a b,st):=by cases d <;> rfl
theorem ai0{s d sz m k:Nat}{xs:List AV}:aT lvl s d (.fresh sz m xs) (k,h)=(yJ true lvl s k h sz m xs (h.get (lvl,s,k))).bind fun r=>some (r.1,k+1,r.2):=by
  rw[← MG]
  have:aT lvl s d (.fresh sz m xs) (k,h)=(h.new (lvl,s,jZ h lvl s k) (.sl true true sz m xs)).bind λh'=>some (.own (lvl,s,jZ h lvl s k) 0 m m,k+1,h'):=by cases d <;> rfl
  rw[this]
  cases h.new (lvl,s,jZ h lvl s k) (.sl true true sz m xs) <;> rfl
theorem aHa{s d sz m k:Nat}{xs:List AV}:aT lvl s d (.freshO sz m xs) (k,h)=(yJ false lvl s k h sz m xs (h.get (lvl,s,k))).bind fun r=>some (r.1,k+1,r.2):=by
  rw[← MG]
  have:aT lvl s d (.freshO sz m xs) (k,h)=(h.new (lvl,s,jZ h lvl s k) (.sl false true sz m xs)).bind λh'=>some (.own (lvl,s,jZ h lvl s k) 0 m m,k+1,h'):=by cases d <;> rfl
  rw[this]
  cases h.new (lvl,s,jZ h lvl s k) (.sl false true sz m xs) <;> rfl
theorem asV{s d:Nat}{xs:List AV}{st:Nat×Heap}:aT lvl s (d+1) (.agg xs) st=(dP (aT lvl s d) xs st).bind λr=>some (.agg r.1,r.2):=rfl
theorem aGv{s d:Nat}{xs:List AV}{st:Nat×Heap}:aT lvl s (d+1) (.tuple xs) st=(dP (aT lvl s d) xs st).bind λr=>some (.tuple r.1,r.2):=rfl
theorem aCf{S:Type}{F:AV->S->Option (AV×S)}{s:S}:dP F [] s=some ([],s):=rfl
theorem aqN{S:Type}{F:AV->S->Option (AV×S)}{s:S}{x:AV}{xs:List AV}:dP F (x::xs) s=(F x s).bind λr=>(dP F xs r.2).bind λq=>some (r.1::q.1,q.2):=rfl
theorem aEb{d:Nat}{xs:List AV}:qo lvl d h (some (.agg xs))=(dP (aT lvl d 3) xs (0,h)).bind fun r=>some (.agg r.1,r.2.2):=by
  show((dP (aT lvl d 3) xs (0,h)).bind λr=>some (AV.agg r.1,r.2)).bind _=_
  cases dP (aT lvl d 3) xs (0,h) <;> rfl
theorem ap5{d:Nat}{xs:List AV}:qo lvl d h (some (.tuple xs))=(dP (aT lvl d 3) xs (0,h)).bind fun r=>some (.tuple r.1,r.2.2):=by
  show((dP (aT lvl d 3) xs (0,h)).bind λr=>some (AV.tuple r.1,r.2)).bind _=_
  cases dP (aT lvl d 3) xs (0,h) <;> rfl
theorem aCx{d:Nat}{xs:List AV}:qo lvl d h (some (.newbx xs))=(dP (aT lvl d 3) xs (0,h)).bind fun r=>(r.2.2.new (lvl,d,r.2.1) (.bx true r.1)).bind fun h'=>some (.ptr (lvl,d,r.2.1) 0 0,h'):=by
  show((dP (aT lvl d 3) xs (0,h)).bind λr=>(r.2.2.new (lvl,d,r.2.1) (.bx true r.1)).bind λh'=>some (AV.ptr (lvl,d,r.2.1) 0 0,r.2.1+1,h')).bind _=_
  cases dP (aT lvl d 3) xs (0,h)with
  |none=>rfl
  |some r=>simp only[ob_some];cases r.2.2.new (lvl,d,r.2.1) (.bx true r.1) <;> rfl
theorem aI6{d sz m xs}:qo lvl d h (some (.freshO sz m xs))=yJ false lvl d 0 h sz m xs (h.get (lvl,d,0)):=by
  rw[← MG]
  simp only[qo,aT]
  cases h.new (lvl,d,jZ h lvl d 0) (.sl false true sz m xs) <;> rfl
theorem aGf{d:Option Tmp}{t:TypeId}{z:List AV}(hz:dG P t=some z):bW P C cp ci lvl e h d (.alloc t)=qo lvl (d.getD 0) h (some (.newbx z)):=by
  rw[jI (λ_ _ _ h=>by cases h) rfl]
  simp only[aq,hz,ob_some]
def Iu(y:AV):Option AV:=if y.cells.all AV.one=true then some (.newbx y.cells)else none
theorem ars{d:Option Tmp}{t:TypeId}{x:Operand}:bW P C cp ci lvl e h d (.box t x)=qo lvl (d.getD 0) h ((az e.get x).bind Iu):=jI (λ_ _ _ h=>by cases h) rfl
theorem aKX{y:AV}(h1:y.cells.all AV.one=true):Iu y=some (.newbx y.cells):=by simp[Iu,h1]
theorem aJJ{xs:List AV}:(AV.agg xs).cells=xs:=rfl
theorem au1{m:Nat}{xs:List AV}:(AV.arr m xs).cells=[.arr m xs]:=rfl
theorem asw{id:Id}{o m x:Nat}:(AV.own id o m x).cells=[.own id o m x]:=rfl
theorem awf{o:Nat}{xs:List AV}:(AV.aF xs o).cells=[.aF xs o]:=rfl
theorem aHT{id:Id}{o x:Nat}:(AV.ptr id o x).cells=[.ptr id o x]:=rfl
theorem awt{k a b}:(AV.fn k a b).cells=[.fn k a b]:=rfl
def lU(lvl d:Nat)(esz by_:Nat)(h:Heap)(m:Nat)(ys:List AV)(id:Id)(n ext:Nat):ax→Option (AV×Heap)
  | .sl true true sz ext' cells=>
    if ext'=n∧ext=n∧sz=esz∧ys.length=m*esz∧n+m≤2 ^ 47∧(n+m)*by_≤2 ^ 47∧ys.all AV.one=true then
      some (.own id 0 (n+m) (n+m),h.set id (.sl true true sz (n+m) (cells++ys)))
    else none
  |_=>none
def appJ(lvl d:Nat)(esz by_:Nat)(h0 h:Heap)(y:AV)(m:Nat)(ys:List AV)(id:Id)(n ext:Nat):ax→Option (AV×Heap)
  | .sl false true _ _ _=>Vk h0 id n ext esz by_ y
  |b=>lU lvl d esz by_ h m ys id n ext b
def BP (lvl d:Nat)(esz by_:Nat)(h:Heap)(x y:AV)(q:List Id)(r:Nat×List AV):Option (AV×Heap):=
  match x with
  | .own id 0 n ext=>((dH h q).get id).bind (appJ lvl d esz by_ h (dH h q) y r.1 r.2 id n ext)
  | .v (.slice none 0 0)=>if r.1*by_≤2 ^ 47∧r.2.length=r.1*esz∧r.1≤2 ^ 47 then
            (aT lvl d 4 (.fresh esz r.1 r.2) (0,dH h q)).bind λ(z,_,h')=>some (z,h')
          else none
  |_=>none
def Je(P:Program)(lvl d:Nat)(t t':TypeId)(h:Heap)(x y:AV):Option (AV×Heap):=if t=t' then(aP P t).bind fun tv=>match tv with
    | .slice el esz by_=>(dG P el).bind λz=>if z.length=esz/\0<esz then(kT h.get y).bind (BP lvl d esz by_ h x y (inner h.get y))else none
    |_=>none
    else(aP P t).bind λtv=>(aP P t').bind λtv'=>aaf P lvl h d tv tv' [x,y]
theorem anf {d :Option Tmp}{a b:Operand}{t t':TypeId}:bW P C cp ci lvl e h d (.call ⟨.builtin .append,⟨[a,b]⟩,#[t,t']⟩)=
    (az e.get a).bind λx=>(az e.get b).bind λy=>Je P lvl (d.getD 0) t t' h x y:=by
  rw[aFo]
  simp only[aS,aV]
  cases az e.get a with
  |none=>rfl
  | some x=>
    cases az e.get b with
    |none=>rfl
    | some y=>
      have ht0:(#[t,t'])[0]? =some t:=rfl
      have ht1:(#[t,t'])[1]? =some t':=rfl
      simp only[ob_some,ht0,ht1,Je]
      by_cases htt:t=t'
      · rw [if_pos htt,if_pos htt]
        cases aP P t with
        |none=>rfl
        | some tv =>
          simp only[ob_some]
          cases tv <;> try rfl
          rename_i el esz by_
          simp only
          cases dG P el with
          |none=>rfl
          | some z=>
            simp only[ob_some]
            by_cases hz:z.length=esz/\0<esz
            · rw [if_pos hz,if_pos hz]
              unfold BP
              split
              · rename_i id n ext y' heq
                injection heq with h1 h2
                injection h2 with h2 _
                subst h1 h2
                cases kT h.get y with
                |none=>rfl
                | some r=>
                  simp only[ob_some]
                  cases Heap.get (dH h (inner h.get y)) id with
                  |none=>rfl
                  | some b=>cases b with
                    |bx=>rfl
                    |sl cl rw=>cases cl <;> cases rw <;> rfl
              · rename_i y' heq
                injection heq with h1 h2
                injection h2 with h2 _
                subst h1 h2
                cases kT h.get y with
                |none=>rfl
                |some r=>rfl
              · rename_i h1 h2
                cases kT h.get y with
                |none=>rfl
                | some r=>
                  simp only[ob_some]
                  split
                  · rename_i id n ext
                    exact absurd rfl (h1 id n ext y)
                  · exact absurd rfl (h2 y)
                  · rfl
            · rw[if_neg hz,if_neg hz]
      · rw[if_neg htt,if_neg htt]
theorem axc{t el:TypeId}{esz by_ d:Nat}{x y:AV}{z:List AV}(htv:aP P t=some (.slice el esz by_))(hz:dG P el=some z)(hl:z.length=esz)(h0:0<esz):
    Je P lvl d t t h x y=(kT h.get y).bind (BP lvl d esz by_ h x y (inner h.get y)):=by
  simp only[Je,htv,ob_some,hz,if_true]
  rw[if_pos ⟨hl,h0⟩]
theorem aIM{d esz by_:Nat}{y:AV}{id:Id}{n ext:Nat}{q:List Id}{r:Nat×List AV}:BP lvl d esz by_ h (.own id 0 n ext) y q r=((dH h q).get id).bind (appJ lvl d esz by_ h (dH h q) y r.1 r.2 id n ext):=rfl
theorem aqH{d esz by_ m:Nat}{h0:Heap}{y:AV}{ys:List AV}{id:Id}{n ext:Nat}{rw:Bool}{sz e:Nat}{cells:List AV}:appJ lvl d esz by_ h0 h y m ys id n ext (.sl true rw sz e cells)=lU lvl d esz by_ h m ys id n ext (.sl true rw sz e cells):=by cases rw <;> rfl
theorem axs{d esz by_:Nat}{y:AV}{q:List Id}{r:Nat×List AV}(h1:r.1*by_≤140737488355328)(h2:r.2.length=r.1*esz)(h3:r.1≤140737488355328):
    BP lvl d esz by_ h (.v (.slice none 0 0)) y q r=yJ true lvl d 0 (dH h q) esz r.1 r.2 ((dH h q).get (lvl,d,0)):=by
  simp only[BP]
  rw[if_pos ⟨by omega,h2,by omega⟩,ai0]
  cases yJ true lvl d 0 (dH h q) esz r.1 r.2 ((dH h q).get (lvl,d,0)) <;> rfl
theorem Af{d esz by_ m:Nat}{id:Id}{n:Nat}{cells ys:List AV}(h2:ys.length=m*esz)(h3:n+m≤140737488355328)(h4:(n+m)*by_≤140737488355328)(h5:ys.all AV.one=true):
    lU lvl d esz by_ h m ys id n n (.sl true true esz n cells)=some (.own id 0 (n+m) (n+m),h.set id (.sl true true esz (n+m) (cells++ys))):=by
  simp only[lU]
  rw[if_pos ⟨trivial,trivial,trivial,h2,by omega,by omega,h5⟩]
theorem Lj{l:List Int}{k:IntKind}:(lm (ik k) l).all AV.one=true:=by simp[lm,ik,AV.one]
theorem Qz{l:List Bool}:(lm bk l).all AV.one=true:=by simp[lm,bk,AV.one]
theorem afZ{l:List (List α)}:(lm (jh f) l).all AV.one=true:=by simp[lm,jh,AV.one]
theorem amy{l:List (List α)}:(lm (Ed c) l).all AV.one=true:=by simp[lm,Ed,AV.one]
theorem lL(hc: ∀ x,(c x).all AV.one=true):(fm c l).all AV.one=true:=by
  induction l with
  |nil=>rfl
  |cons x l ih=>rw[MK,List.all_append,hc,ih];rfl
theorem ayP{m:Nat}{xs:List AV}:kT g (.arr m xs)=some (m,xs):=by simp[kT,aG]
theorem azn{cc:Nat}:kT g (.v (.slice none 0 cc))=some (0,[]):=rfl
def G5(g:Id→Option ax)(off m ext:Nat)(b:ax):Option (Nat×List AV):=(KE g off m ext b).bind fun y=>match y with
  | .arr n xs=>some (n,xs)
  |_=>none
theorem aC5{id:Id}{off m ext:Nat}:kT g (.own id off m ext)=(g id).bind (G5 g off m ext):=by
  simp only[kT,aKG]
  cases g id <;> rfl
theorem auq{off m ext r sz cells}:G5 g off m ext (.sl true r sz ext cells)=some (m,cut cells off m sz ext):=by simp[G5,KE]
def QI(g:Id→Option ax):Option ax→List Id
  |some (.sl false _ _ _ cells)=>(cells.map (aO g 3)).flatten
  |_=>[]
theorem aEj{id:Id}{off m ext:Nat}:inner g (.own id off m ext)=QI g (g id):=by
  simp only[inner,QI]
  split <;> rename_i hh <;> split <;> rename_i hk
  · rw[hh]at hk;injection hk with hk;injection hk with _ _ _ _ hk;rw[hk]
  · exact absurd hh (hk _ _ _ _)
  · exact absurd hk (hh _ _ _ _)
  · rfl
theorem aHj{r sz ext cells}:QI g (some (.sl true r sz ext cells))=[]:=rfl
theorem aC0{m:Nat}{xs:List AV}:inner g (.arr m xs)=[]:=rfl
theorem aFS{cc:Nat}:inner g (.v (.slice none 0 cc))=[]:=rfl
theorem aos:dH h []=h:=rfl
def fzB(h:Heap)(i:Id)(is:List Id):Option ax→Heap
  |some b=>dH (h.set i b.freeze) is
  |none=>dH h is
theorem avg{i:Id}{is:List Id}:dH h (i::is)=fzB h i is (h.get i):=by
  show(match h.get i with|some b=>dH (h.set i b.freeze) is|none=>dH h is)=_
  cases h.get i <;> rfl
theorem avm{i:Id}{is:List Id}{b:ax}:fzB h i is (some b)=dH (h.set i b.freeze) is:=rfl
theorem atE{cl rw sz ext cells}:(ax.sl cl rw sz ext cells).freeze= .sl cl false sz ext cells:=rfl
theorem aCc{rw cells}:(ax.bx rw cells).freeze= .bx false cells:=rfl
end
end Go.Av
