/- The interpreter's equations, one for each kind of operation, and what ends a loop. Conditions: those that each names. -/
import Derived.Test.YteafmomjfnlkgaaGreatSz
set_option linter.unusedVariables false
namespace Go.Av
section
variable {P:Program} {C:bn} {cp:af} {ci:bg} {lvl n:Nat} {prot:List Id} {D:List (Nat×List Nat)} {e:Env} {h:Heap} {all os:List Oper}
def ZK:bn:=⟨λ_=>false,λ_=>[]⟩
theorem ob_some{α β:Type}{a:α}{f:α->Option β}:(some a).bind f=f a:=rfl
theorem Vd{α β:Type}{f:α->Option β}:(none:Option α).bind f=none:=rfl
def oJ(lvl:Nat)(prot:List Id)(ds:Nat×List Nat)(r:Env×Heap):Option (Ex×Env×Heap):=(post lvl prot ds.2 (r.1.drop ds.2) r.2).bind λr=>some (.normal,r.1,r.2)
theorem ay6{id:Nat}{ops:List Oper}:exec P C cp ci lvl prot D n (.region id ⟨ops⟩ false) e h=
  (iD P C cp ci lvl ops ops e h).bind (oJ lvl prot (D.getD (2*id) (0,[]))):=rfl
theorem IB{id:Nat}{ops:List Oper}:exec P C cp ci lvl prot D n (.region id ⟨ops⟩ true) e h=
  (qh P C cp ci lvl ops (D.getD (2*id) (0,[])).1 e h).bind (oJ lvl prot (D.getD (2*id) (0,[]))):=rfl
def aGN(k:Env→Heap→Option (Ex×Env×Heap)):Ex×Env×Heap→Option (Ex×Env×Heap)
  |(.normal,e,h)=>k e h
  |(.exit i,e,h)=>some (.exit i,e,h)
  |(.ret,e,h)=>some (.ret,e,h)
theorem arJ{a b:Code}:exec P C cp ci lvl prot D n (.seq a b) e h=(exec P C cp ci lvl prot D n a e h).bind (aGN (exec P C cp ci lvl prot D n b)):=by
  simp only[exec]
  congr 1
  funext r
  rcases r with⟨_|_|_,_,_⟩ <;> rfl
def WL(lvl:Nat)(prot:List Id)(D:List (Nat×List Nat))(id:Nat):Ex×Env×Heap→Option (Ex×Env×Heap)
  |(.normal,e,h)=>oJ lvl prot (D.getD (2*id+1) (0,[])) (e,h)
  |(.exit i,e,h)=>if i=id then oJ lvl prot (D.getD (2*id+1) (0,[])) (e,h)else some (.exit i,e,h)
  |(.ret,e,h)=>some (.ret,e,h)
theorem ar0{id:Nat}{c:Code}:exec P C cp ci lvl prot D n (.block id c) e h=(exec P C cp ci lvl prot D n c e h).bind (WL lvl prot D id):=by
  simp only[exec]
  congr 1
  funext r
  rcases r with⟨_|_|_,_,_⟩ <;> rfl
def aIS(f g:Env→Heap→Option (Ex×Env×Heap))(e:Env)(h:Heap):AV→Option (Ex×Env×Heap)
  | .v (.bool true)=>f e h
  | .v (.bool false)=>g e h
  |_=>none
theorem aGR{c:Operand}{a b:Code}:exec P C cp ci lvl prot D n (.cond c a b) e h=
    (az e.get c).bind λy=>(aIS (exec P C cp ci lvl prot D n a) (exec P C cp ci lvl prot D n b) (qB D c e) h y).bind (sweepX prot):=by
  simp only[exec]
  congr 1
  funext y
  cases y <;> try rfl
  rename_i x
  cases x <;> try rfl
  rename_i b
  cases b <;> rfl
def OU(f:Env->Heap->Option (Env×Heap))(d:Option Tmp)(e:Env)(r:AV×Heap):Option (Env×Heap):=f (dF e d r.1) r.2
theorem aBn{d op ty pos after}:iD P C cp ci lvl all (⟨d,op,ty,pos,after,none⟩::os) e h=
  (bW P C cp ci lvl e h d op).bind (OU (iD P C cp ci lvl all os) d e):=rfl
def OL(f:Env→Heap→Option (Env×Heap))(r:Option (AV×Heap))(d:Option Tmp)(e:Env)(h:Heap)(wd:Bool):Option (Env×Heap):=
  if wd=true then r.bind (OU f d e)else f (dF e d (.v undef)) h
theorem adU{f r d}:OL f r d e h true=r.bind (OU f d e):=rfl
theorem aKv{d op ty pos after g}:iD P C cp ci lvl all (⟨d,op,ty,pos,after,some g⟩::os) e h=
  (nV all e.get ⟨d,op,ty,pos,after,some g⟩).bind (OL (iD P C cp ci lvl all os) (bW P C cp ci lvl e h d op) d e h):=rfl
theorem azX{e:Nat→Option AV}{d op ty pos after j want}:nV all e ⟨d,op,ty,pos,after,some (j,want)⟩=match (all[j]?).bind (·.dst)with
    | some d=>(e d).bind fun x=>match x with
      | .v (.bool b)=>some (b==want)
      | .v _=>some false
      |_=>none
    |none=>some false:=rfl
theorem aqz{d x}:dF e (some d) x=e.set d x:=rfl
theorem aFG{x}:dF e none x=e:=rfl
def qo(lvl d:Nat)(h:Heap):Option AV→Option (AV×Heap)
  |some t=>(aT lvl d 4 t (0,h)).bind λr=>some (r.1,r.2.2)
  |none=>none
theorem ax6{d x}:qo lvl d h (some (.v x))=some (.v x,h):=rfl
theorem ayq{d m xs}:qo lvl d h (some (.arr m xs))=some (.arr m xs,h):=rfl
theorem aoJ{d i o m x}:qo lvl d h (some (.own i o m x))=some (.own i o m x,h):=rfl
theorem avO{d i o x}:qo lvl d h (some (.ptr i o x))=some (.ptr i o x,h):=rfl
theorem awr{d o x}:qo lvl d h (some (.aF x o))=some (.aF x o,h):=rfl
theorem ayN{d f a b}:qo lvl d h (some (.fn f a b))=some (.fn f a b,h):=rfl
def yJ(cl:Bool)(lvl d k:Nat)(h:Heap)(sz m:Nat)(xs:List AV):Option ax→Option (AV×Heap)
  |none=>some (.own (lvl,d,k) 0 m m,Heap.set h (lvl,d,k) (.sl cl true sz m xs))
  |some _=>(h.new (lvl,d,jZ h lvl d k) (.sl cl true sz m xs)).bind λh'=>some (.own (lvl,d,jZ h lvl d k) 0 m m,h')
theorem aMA{cl:Bool}{d k sz m:Nat}{xs:List AV}:yJ cl lvl d k h sz m xs none=some (.own (lvl,d,k) 0 m m,Heap.set h (lvl,d,k) (.sl cl true sz m xs)):=rfl
theorem MG{cl:Bool}{d k sz m:Nat}{xs:List AV}:((h.new (lvl,d,jZ h lvl d k) (.sl cl true sz m xs)).bind fun h'=>some (AV.own (lvl,d,jZ h lvl d k) 0 m m,h'))=yJ cl lvl d k h sz m xs (h.get (lvl,d,k)):=by
  cases hg:h.get (lvl,d,k)with
  |some b=>rfl
  | none=>
    have e1:jZ h lvl d k=k:=by unfold jZ Eu;rw[hg];rfl
    rw[e1]
    unfold Heap.new
    rw[hg]
    rfl
theorem aoe{d sz m xs}:qo lvl d h (some (.fresh sz m xs))=yJ true lvl d 0 h sz m xs (h.get (lvl,d,0)):=by
  rw[← MG]
  simp only[qo,aT]
  cases h.new (lvl,d,jZ h lvl d 0) (.sl true true sz m xs) <;> rfl
section ops
variable {d:Option Tmp} {x y z c a b f:Operand}
theorem aHV:bW P C cp ci lvl e h d (.move x)=qo lvl (d.getD 0) h (az e.get x):=by
  simp only[bW,aq];cases az e.get x <;> rfl
theorem aE4:bW P C cp ci lvl e h d (.assign x)=qo lvl (d.getD 0) h (az e.get x):=by
  simp only[bW,aq];cases az e.get x <;> rfl
theorem jI{o:Op}(hc: ∀ f args ts,o≠ .call ⟨.value f,args,ts⟩)(hs:aS P lvl e.get h (d.getD 0) o=none):bW P C cp ci lvl e h d o=qo lvl (d.getD 0) h (aq P e.get h.get o):=by
  unfold bW
  split
  · exact absurd rfl (hc _ _ _)
  · rename_i o' hh
    simp only[hs]
    cases aq P e.get h.get o' <;> rfl
theorem apx{op t t'}:bW P C cp ci lvl e h d (.binOp op t x y t')=qo lvl (d.getD 0) h ((az e.get x).bind λa=>(az e.get y).bind λb=>nU P op t a b):=jI (λ_ _ _ h=>by cases h) rfl
theorem apg{op t}:bW P C cp ci lvl e h d (.unOp op t x)=qo lvl (d.getD 0) h ((az e.get x).bind λa=>AQ op a):=jI (λ_ _ _ h=>by cases h) rfl
theorem ayx:bW P C cp ci lvl e h d (.pick c a b)=qo lvl (d.getD 0) h ((az e.get c).bind fun c=>match c with
    | .v (.bool t)=>if t=true then az e.get a else az e.get b
    |_=>none):=jI (λ_ _ _ h=>by cases h) rfl
theorem aJ8{t}:bW P C cp ci lvl e h d (.load t a)=qo lvl (d.getD 0) h ((az e.get a).bind λp=>o6 P h.get t p):=jI (λ_ _ _ h=>by cases h) rfl
theorem aF0{t}:bW P C cp ci lvl e h d (.indexAddr t x y)=qo lvl (d.getD 0) h ((az e.get x).bind λa=>(az e.get y).bind λb=>(lT b).bind λn=>oH P t h.get a n):=jI (λ_ _ _ h=>by cases h) rfl
theorem arA{s i}:bW P C cp ci lvl e h d (.fieldAddr s x i)=qo lvl (d.getD 0) h ((az e.get x).bind λa=>ng P s h.get a i):=jI (λ_ _ _ h=>by cases h) rfl
theorem ayR{t i}:bW P C cp ci lvl e h d (.field t x i)=qo lvl (d.getD 0) h ((az e.get x).bind fun a=>(dh P t i).bind fun r=>match a with
    | .agg xs=>part P xs r.2 r.1
    |_=>none):=jI (λ_ _ _ h=>by cases h) rfl
theorem awj{i}:bW P C cp ci lvl e h d (.extract x i)=qo lvl (d.getD 0) h ((az e.get x).bind fun a=>match a with
    | .tuple xs=>xs[i]?
    |_=>none):=jI (λ_ _ _ h=>by cases h) rfl
theorem anX:bW P C cp ci lvl e h d (.nilCheck x)=qo lvl (d.getD 0) h ((az e.get x).bind fun y=>match y with
    | .ptr id _ ext=>if live h.get id ext=true then some y else none
    | .aF _ _=>some y
    | .fn _ _ _=>some y
    |_=>none):=jI (λ_ _ _ h=>by cases h) rfl
theorem arH{t}:bW P C cp ci lvl e h d (.makeSlice t x y)=qo lvl (d.getD 0) h ((az e.get x).bind fun a=>(az e.get y).bind fun b=>(lT a).bind fun n=>(lT b).bind fun c=>
      (aP P t).bind λtv=>match tv with
      | .slice el sz by_=>(dG P el).bind fun z=>
        if 0<=n/\n<=c/\c<=2 ^ 47/\c*by_<=2 ^ 47/\z.length=sz then some (.fresh sz n.toNat (List.replicate n.toNat z).flatten)else none
      |_=>none):=jI (λ_ _ _ h=>by cases h) rfl
theorem aHn{t lo hi}:bW P C cp ci lvl e h d (.slice t x lo hi none)=qo lvl (d.getD 0) h ((az e.get x).bind λa=>(oQ (az e.get) lo).bind λl=>(oQ (az e.get) hi).bind λr=>oN P t h.get a l r):=jI (λ_ _ _ h=>by cases h) rfl
theorem aKp{t m ps}:bW P C cp ci lvl e h d (.buildSlice t m ⟨ps⟩)=qo lvl (d.getD 0) h ((aV (λp:Nat×Operand=>(az e.get p.2).bind λy=>some (p.1,y)) ps).bind λps=>wY P t m ps):=jI (λ_ _ _ h=>by cases h) rfl
theorem ayv{t ps}:bW P C cp ci lvl e h d (.build t ⟨ps⟩)=qo lvl (d.getD 0) h ((aV (λp:Nat×Operand=>(az e.get p.2).bind λy=>some (p.1,y)) ps).bind λps=>yE P t ps):=jI (λ_ _ _ h=>by cases h) rfl
theorem atr{ts}:bW P C cp ci lvl e h d (.call ⟨.builtin .len,⟨[x]⟩,ts⟩)=qo lvl (d.getD 0) h ((az e.get x).bind fun a=>jJ P .len ts [a]):=by
  rw[jI (λ_ _ _ h=>by cases h) rfl]
  simp only[aq,aV]
  cases az e.get x <;> rfl
theorem aBC{ts}:bW P C cp ci lvl e h d (.call ⟨.builtin .max,⟨[x,y]⟩,ts⟩)=qo lvl (d.getD 0) h ((az e.get x).bind fun a=>(az e.get y).bind fun b=>jJ P .max ts [a,b]):=by
  rw[jI (λ_ _ _ h=>by cases h) rfl]
  simp only[aq,aV]
  cases az e.get x <;> cases az e.get y <;> rfl
theorem aFo{args ts}:bW P C cp ci lvl e h d (.call ⟨.builtin .append,⟨args⟩,ts⟩)=aS P lvl e.get h (d.getD 0) (.call ⟨.builtin .append,⟨args⟩,ts⟩):=by
  have:aq P e.get h.get (.call ⟨.builtin .append,⟨args⟩,ts⟩)=none:=by
    simp only[aq]
    cases aV (az e.get) args with
    |none=>rfl
    |some as=>simp only[ob_some,jJ]
  unfold bW
  simp only[this]
def kG(lvl d:Nat)(h:Heap):Option (AV×List Id)→Option (AV×Heap)
  |some (r,fl)=>qo lvl d (dH h fl) (some r)
  |none=>none
theorem auZ{d:Nat}{r:AV}:kG lvl d h (some (r,[]))=qo lvl d h (some r):=rfl
theorem aiL{d:Nat}{r:Option (AV×List Id)}:(r.bind fun r=>(aT lvl d 4 r.1 (0,dH h r.2)).bind fun r=>some (r.1,r.2.2))=kG lvl d h r:=by
  rcases r with _|⟨r,fl⟩ <;> rfl
theorem afU{k args ts}(hi:C.inl k=false):bW P C cp ci lvl e h d (.call ⟨.value (.func k),⟨args⟩,ts⟩)=
    (aV (az e.get) args).bind λas=>kG lvl (d.getD 0) h (kJ cp h.get k as):=by
  simp only[bW,az,ob_some,rf,List.nil_append,List.append_nil,hi,Bool.false_eq_true,if_false]
  congr 1
  funext as
  rw[← aiL]
def lG(C:bn)(cp:af)(ci:bg)(lvl d:Nat)(h:Heap)(as:Option (List AV)):AV→Option (AV×Heap)
  | .fn k first cap=>as.bind λas=>if C.inl k=true then ci (lvl+1) k (first++as++cap) h else kG lvl d h (kJ cp h.get k (first++as++cap))
  |_=>none
theorem UU{dd:Nat}{as:List AV}{k:FuncId}{first cap:List AV}(hi:C.inl k=false):lG C cp ci lvl dd h (some as) (.fn k first cap)=kG lvl dd h (kJ cp h.get k (first++as++cap)):=by simp[lG,hi]
theorem aLN{t args ts}:bW P C cp ci lvl e h d (.call ⟨.value (.tmp t),⟨args⟩,ts⟩)=
    (e.get t).bind (lG C cp ci lvl (d.getD 0) h (aV (az e.get) args)):=by
  simp only[bW,az]
  congr 1
  funext x
  cases x <;> try rfl
  simp only[rf,ob_some,lG]
  congr 1
  funext as
  rw[← aiL]
theorem azg{k:FuncId}{as:List AV}{g:Id→Option ax}:kJ cp g k as=(aV (aG g 4) as).bind fun bs=>(cp k bs).bind fun r=>
    some (r,if(as.map (aO g 4)).flatten.isEmpty=true then []else if alias 4 r=true then(as.map (aO g 4)).flatten else []):=rfl
def V9(i:Nat):AV→Option AV
  | .tuple xs=>xs[i]?
  |_=>none
theorem aKe{i x}:bW P C cp ci lvl e h d (.extract x i)=qo lvl (d.getD 0) h ((az e.get x).bind (V9 i)):=by
  rw[awj]
  rfl
theorem aJT{i xs}:V9 i (.tuple xs)=xs[i]? :=rfl
end ops
theorem ayC:jU P C cp ci lvl all 0 os e h=iD P C cp ci lvl all os e h:=by cases os <;> rfl
theorem axN{k d op ty pos after}:jU P C cp ci lvl all (k+1) (⟨d,op,ty,pos,after,none⟩::os) e h=
  (qo lvl (d.getD 0) h (bF P C cp e.get h.get op)).bind (OU (jU P C cp ci lvl all k os) d e):=by
  show(bF P C cp e.get h.get op).bind _=_
  cases bF P C cp e.get h.get op with
  |none=>rfl
  | some t=>
    simp only[qo,ob_some]
    cases aT lvl (d.getD 0) 4 t (0,h) <;> rfl
theorem atz{k d op ty pos after g}:jU P C cp ci lvl all (k+1) (⟨d,op,ty,pos,after,some g⟩::os) e h=
  (nV all e.get ⟨d,op,ty,pos,after,some g⟩).bind (OL (jU P C cp ci lvl all k os) (qo lvl (d.getD 0) h (bF P C cp e.get h.get op)) d e h):=by
  show Option.bind (nV all e.get ⟨d,op,ty,pos,after,some g⟩) _=_
  congr 1
  funext wd
  cases wd with
  |false=>rfl
  | true=>
    show(bF P C cp e.get h.get op).bind _=_
    simp only[OL,if_true]
    cases bF P C cp e.get h.get op with
    |none=>rfl
    | some t=>
      simp only[qo,ob_some]
      cases aT lvl (d.getD 0) 4 t (0,h) <;> rfl
section aq
variable {e:Nat->Option AV} {g:Id->Option ax} {x y a:Operand}
theorem aBZ:bF P C cp e g (.move x)=az e x:=rfl
theorem arV:bF P C cp e g (.assign x)=az e x:=rfl
theorem ao0{op t t'}:bF P C cp e g (.binOp op t x y t')=(az e x).bind λa=>(az e y).bind λb=>nU P op t a b:=rfl
theorem axU{op t}:bF P C cp e g (.unOp op t x)=(az e x).bind λa=>AQ op a:=rfl
theorem ark{t}:bF P C cp e g (.load t a)=(az e a).bind λp=>o6 P g t p:=rfl
theorem auY{t}:bF P C cp e g (.indexAddr t x y)=(az e x).bind λa=>(az e y).bind λb=>(lT b).bind λn=>oH P t g a n:=rfl
theorem axr{s i}:bF P C cp e g (.fieldAddr s x i)=(az e x).bind λa=>ng P s g a i:=rfl
theorem aJH{ts}:bF P C cp e g (.call ⟨.builtin .len,⟨[x]⟩,ts⟩)=(az e x).bind fun a=>jJ P .len ts [a]:=by
  simp only[bF,aq,aV]
  cases az e x <;> rfl
theorem aJj{c b}:bF P C cp e g (.pick c a b)=(az e c).bind fun c=>match c with
    | .v (.bool t)=>if t=true then az e a else az e b
    |_=>none:=rfl
theorem anK{k args ts}:bF P ZK cp e g (.call ⟨.value (.func k),⟨args⟩,ts⟩)=(aV (az e) args).bind fun as=>(kJ cp g k as).bind fun r=>if r.2.isEmpty=true then some r.1 else if fO 4 r.1=false then some r.1 else none:=by
  simp only[bF,az,ob_some,rf,List.nil_append,List.append_nil,ZK,Bool.false_eq_true,if_false]
end aq
theorem aqd{e:Nat->Option AV}{t}:az e (.tmp t)=e t:=rfl
theorem apE{e:Nat->Option AV}{f}:az e (.func f)=some (.fn f [] []):=rfl
theorem aMp{e:Nat->Option AV}{k x}:az e (.const (.int k x))=some (.v (.int k x)):=rfl
theorem aK6{e:Nat->Option AV}{x}:az e (.const (.bool x))=some (.v (.bool x)):=rfl
theorem azF{e:Nat->Option AV}{a m c}:az e (.const (.slice a m c))=some (.v (.slice a m c)):=rfl
theorem aAY{α β:Type}{f:α->Option β}:aV f []=some []:=rfl
theorem GR{α β:Type}{f:α->Option β}{x:α}{xs:List α}:aV f (x::xs)=(f x).bind λy=>(aV f xs).bind λys=>some (y::ys):=rfl
theorem aqs{op t k k' x y}:nU P op t (.v (.int k x)) (.v (.int k' y))=eX op k k' x y:=rfl
section ints
variable {x y:Int} {k:IntKind}
theorem auz:eX .lss k k x y=some (.v (.bool (decide (x<y)))):=by simp[eX,BinOp.kH,BinOp.l7,yS]
theorem aAO:eX .leq k k x y=some (.v (.bool (decide (x<=y)))):=by simp[eX,BinOp.kH,BinOp.l7,yS]
theorem aEn:eX .gtr k k x y=some (.v (.bool (decide (y<x)))):=by simp[eX,BinOp.kH,BinOp.l7,yS]
theorem asr:eX .geq k k x y=some (.v (.bool (decide (y<=x)))):=by simp[eX,BinOp.kH,BinOp.l7,yS]
theorem aqY:eX .eql k k x y=some (.v (.bool (decide (x=y)))):=by simp[eX,BinOp.kH,BinOp.l7,yS];exact(Bool.beq_eq_decide_eq x y)
theorem axP:eX .neq k k x y=some (.v (.bool (!decide (x=y)))):=by simp[eX,BinOp.kH,BinOp.l7,yS,bne,Bool.beq_eq_decide_eq]
theorem wrap64(h1: -9223372036854775808≤x)(h2:x<9223372036854775808):IntKind.i64.wrap x=x:=by
  simp[IntKind.wrap,IntKind.signed,IntKind.bits]
  omega
end ints
theorem aum:(true==true)=true:=rfl
theorem aDC:(true==false)=false:=rfl
theorem aHf:(false==true)=false:=rfl
theorem aId:(false==false)=true:=rfl
theorem aJ3{k}:Env.get [] k=none:=rfl
theorem aE2{j k x}{e:Env}:Env.get ((j,x)::e) k=if j=k then some x else Env.get e k:=rfl
theorem awz{k}:Heap.get [] k=none:=rfl
theorem aKA{j k x}{h:Heap}:Heap.get ((j,x)::h) k=if j=k then some x else Heap.get h k:=rfl
def iv(x:Int):AV:= .v (.int .i64 x)
def ints(l:List Int):List AV:=l.map iv
def asInt:AV→Option Int
  | .v (.int .i64 x)=>some x
  |_=>none
end
end Go.Av
