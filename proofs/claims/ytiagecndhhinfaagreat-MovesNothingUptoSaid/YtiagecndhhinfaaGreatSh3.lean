/- The interpreter's equations, one for each kind of operation, and what ends a loop. Conditions: those that each names. -/
import Derived.Test.YtiagecndhhinfaaGreatSz
set_option linter.unusedVariables false
namespace Go.Av
section
variable {P:Program} {C:bG} {cp:aC} {ci:bz} {lvl n:Nat} {prot:List Id} {D:List (Nat×List Nat)} {e:Env} {h:Heap} {all os:List Oper}
def TQ:bG:=⟨λ_=>false,λ_=>[]⟩
theorem ai{α β:Type}{a:α}{f:α->Option β}:(some a).bind f=f a:=rfl
theorem TZ{α β:Type}{f:α->Option β}:(none:Option α).bind f=none:=rfl
def oM(lvl:Nat)(prot:List Id)(ds:Nat×List Nat)(r:Env×Heap):Option (Ex×Env×Heap):=(post lvl prot ds.2 (r.1.drop ds.2) r.2).bind λr=>some (.normal,r.1,r.2)
theorem amP{id:Nat}{ops:List Oper}:exec P C cp ci lvl prot D n (.region id ⟨ops⟩ false) e h=
  (ji P C cp ci lvl ops ops e h).bind (oM lvl prot (D.getD (2*id) (0,[]))):=rfl
theorem Ea{id:Nat}{ops:List Oper}:exec P C cp ci lvl prot D n (.region id ⟨ops⟩ true) e h=
  (qm P C cp ci lvl ops (D.getD (2*id) (0,[])).1 e h).bind (oM lvl prot (D.getD (2*id) (0,[]))):=rfl
def azY(k:Env→Heap→Option (Ex×Env×Heap)):Ex×Env×Heap→Option (Ex×Env×Heap)
  |(.normal,e,h)=>k e h
  |(.exit i,e,h)=>some (.exit i,e,h)
  |(.ret,e,h)=>some (.ret,e,h)
theorem amQ{a b:Code}:exec P C cp ci lvl prot D n (.seq a b) e h=(exec P C cp ci lvl prot D n a e h).bind (azY (exec P C cp ci lvl prot D n b)):=by
  simp only[exec]
  congr 1
  funext r
  rcases r with⟨_|_|_,_,_⟩ <;> rfl
def PL(lvl:Nat)(prot:List Id)(D:List (Nat×List Nat))(id:Nat):Ex×Env×Heap→Option (Ex×Env×Heap)
  |(.normal,e,h)=>oM lvl prot (D.getD (2*id+1) (0,[])) (e,h)
  |(.exit i,e,h)=>if i=id then oM lvl prot (D.getD (2*id+1) (0,[])) (e,h)else some (.exit i,e,h)
  |(.ret,e,h)=>some (.ret,e,h)
theorem amN{id:Nat}{c:Code}:exec P C cp ci lvl prot D n (.block id c) e h=(exec P C cp ci lvl prot D n c e h).bind (PL lvl prot D id):=by
  simp only[exec]
  congr 1
  funext r
  rcases r with⟨_|_|_,_,_⟩ <;> rfl
def ala(f g:Env→Heap→Option (Ex×Env×Heap))(e:Env)(h:Heap):AV→Option (Ex×Env×Heap)
  | .v (.bool true)=>f e h
  | .v (.bool false)=>g e h
  |_=>none
theorem amO{c:Operand}{a b:Code}:exec P C cp ci lvl prot D n (.cond c a b) e h=
    (aB e.get c).bind λy=>(ala (exec P C cp ci lvl prot D n a) (exec P C cp ci lvl prot D n b) (qy D c e) h y).bind (sweepX prot):=by
  simp only[exec]
  congr 1
  funext y
  cases y <;> try rfl
  rename_i x
  cases x <;> try rfl
  rename_i b
  cases b <;> rfl
def L8(f:Env->Heap->Option (Env×Heap))(d:Option Tmp)(e:Env)(r:AV×Heap):Option (Env×Heap):=f (dX e d r.1) r.2
theorem agd{d op ty pos after}:ji P C cp ci lvl all (⟨d,op,ty,pos,after,none⟩::os) e h=
  (dw P C cp ci lvl e h d op).bind (L8 (ji P C cp ci lvl all os) d e):=rfl
def NP(f:Env→Heap→Option (Env×Heap))(r:Option (AV×Heap))(d:Option Tmp)(e:Env)(h:Heap)(wd:Bool):Option (Env×Heap):=
  if wd=true then r.bind (L8 f d e)else f (dX e d (.v undef)) h
theorem adS{f r d}:NP f r d e h true=r.bind (L8 f d e):=rfl
theorem age{d op ty pos after g}:ji P C cp ci lvl all (⟨d,op,ty,pos,after,some g⟩::os) e h=
  (o7 all e.get ⟨d,op,ty,pos,after,some g⟩).bind (NP (ji P C cp ci lvl all os) (dw P C cp ci lvl e h d op) d e h):=rfl
theorem aAJ{e:Nat→Option AV}{d op ty pos after j want}:o7 all e ⟨d,op,ty,pos,after,some (j,want)⟩=match (all[j]?).bind (·.dst)with
    | some d=>(e d).bind fun x=>match x with
      | .v (.bool b)=>some (b==want)
      | .v _=>some false
      |_=>none
    |none=>some false:=rfl
theorem aw9{d x}:dX e (some d) x=e.set d x:=rfl
theorem aw8{x}:dX e none x=e:=rfl
def qo(lvl d:Nat)(h:Heap):Option AV→Option (AV×Heap)
  |some t=>(bC lvl d 4 t (0,h)).bind λr=>some (r.1,r.2.2)
  |none=>none
theorem axm{d x}:qo lvl d h (some (.v x))=some (.v x,h):=rfl
theorem axc{d m xs}:qo lvl d h (some (.arr m xs))=some (.arr m xs,h):=rfl
theorem axi{d i o m x}:qo lvl d h (some (.own i o m x))=some (.own i o m x,h):=rfl
theorem axj{d i o x}:qo lvl d h (some (.ptr i o x))=some (.ptr i o x,h):=rfl
theorem axk{d o x}:qo lvl d h (some (.ay x o))=some (.ay x o,h):=rfl
theorem axd{d f a b}:qo lvl d h (some (.fn f a b))=some (.fn f a b,h):=rfl
def uZ(cl:Bool)(lvl d k:Nat)(h:Heap)(sz m:Nat)(xs:List AV):Option ak→Option (AV×Heap)
  |none=>some (.own (lvl,d,k) 0 m m,Heap.set h (lvl,d,k) (.sl cl true sz m xs))
  |some _=>(h.new (lvl,d,lC h lvl d k) (.sl cl true sz m xs)).bind λh'=>some (.own (lvl,d,lC h lvl d k) 0 m m,h')
theorem aoQ{cl:Bool}{d k sz m:Nat}{xs:List AV}:uZ cl lvl d k h sz m xs none=some (.own (lvl,d,k) 0 m m,Heap.set h (lvl,d,k) (.sl cl true sz m xs)):=rfl
theorem KI{cl:Bool}{d k sz m:Nat}{xs:List AV}:((h.new (lvl,d,lC h lvl d k) (.sl cl true sz m xs)).bind fun h'=>some (AV.own (lvl,d,lC h lvl d k) 0 m m,h'))=uZ cl lvl d k h sz m xs (h.get (lvl,d,k)):=by
  cases hg:h.get (lvl,d,k)with
  |some b=>rfl
  | none=>
    have e1:lC h lvl d k=k:=by unfold lC nR;rw[hg];rfl
    rw[e1]
    unfold Heap.new
    rw[hg]
    rfl
theorem axe{d sz m xs}:qo lvl d h (some (.fresh sz m xs))=uZ true lvl d 0 h sz m xs (h.get (lvl,d,0)):=by
  rw[← KI]
  simp only[qo,bC]
  cases h.new (lvl,d,lC h lvl d 0) (.sl true true sz m xs) <;> rfl
section ops
variable {d:Option Tmp} {x y z c a b f:Operand}
theorem afY:dw P C cp ci lvl e h d (.move x)=qo lvl (d.getD 0) h (aB e.get x):=by
  simp only[dw,aq];cases aB e.get x <;> rfl
theorem afA:dw P C cp ci lvl e h d (.assign x)=qo lvl (d.getD 0) h (aB e.get x):=by
  simp only[dw,aq];cases aB e.get x <;> rfl
theorem kw{o:Op}(hc: ∀ f args ts,o≠ .call ⟨.value f,args,ts⟩)(hs:aS P lvl e.get h (d.getD 0) o=none):dw P C cp ci lvl e h d o=qo lvl (d.getD 0) h (aq P e.get h.get o):=by
  unfold dw
  split
  · exact absurd rfl (hc _ _ _)
  · rename_i o' hh
    simp only[hs]
    cases aq P e.get h.get o' <;> rfl
theorem afB{op t t'}:dw P C cp ci lvl e h d (.binOp op t x y t')=qo lvl (d.getD 0) h ((aB e.get x).bind λa=>(aB e.get y).bind λb=>pq P op t a b):=kw (λ_ _ _ h=>by cases h) rfl
theorem af5{op t}:dw P C cp ci lvl e h d (.unOp op t x)=qo lvl (d.getD 0) h ((aB e.get x).bind λa=>yx op a):=kw (λ_ _ _ h=>by cases h) rfl
theorem af1:dw P C cp ci lvl e h d (.pick c a b)=qo lvl (d.getD 0) h ((aB e.get c).bind fun c=>match c with
    | .v (.bool t)=>if t=true then aB e.get a else aB e.get b
    |_=>none):=kw (λ_ _ _ h=>by cases h) rfl
theorem afS{t}:dw P C cp ci lvl e h d (.load t a)=qo lvl (d.getD 0) h ((aB e.get a).bind λp=>pz P h.get t p):=kw (λ_ _ _ h=>by cases h) rfl
theorem afP{t}:dw P C cp ci lvl e h d (.indexAddr t x y)=qo lvl (d.getD 0) h ((aB e.get x).bind λa=>(aB e.get y).bind λb=>(mF b).bind λn=>oJ P t h.get a n):=kw (λ_ _ _ h=>by cases h) rfl
theorem afN{s i}:dw P C cp ci lvl e h d (.fieldAddr s x i)=qo lvl (d.getD 0) h ((aB e.get x).bind λa=>nK P s h.get a i):=kw (λ_ _ _ h=>by cases h) rfl
theorem afM{t i}:dw P C cp ci lvl e h d (.field t x i)=qo lvl (d.getD 0) h ((aB e.get x).bind fun a=>(dR P t i).bind fun r=>match a with
    | .agg xs=>part P xs r.2 r.1
    |_=>none):=kw (λ_ _ _ h=>by cases h) rfl
theorem afK{i}:dw P C cp ci lvl e h d (.extract x i)=qo lvl (d.getD 0) h ((aB e.get x).bind fun a=>match a with
    | .tuple xs=>xs[i]?
    |_=>none):=kw (λ_ _ _ h=>by cases h) rfl
theorem af0:dw P C cp ci lvl e h d (.nilCheck x)=qo lvl (d.getD 0) h ((aB e.get x).bind fun y=>match y with
    | .ptr id _ ext=>if live h.get id ext=true then some y else none
    | .ay _ _=>some y
    | .fn _ _ _=>some y
    |_=>none):=kw (λ_ _ _ h=>by cases h) rfl
theorem afT{t}:dw P C cp ci lvl e h d (.makeSlice t x y)=qo lvl (d.getD 0) h ((aB e.get x).bind fun a=>(aB e.get y).bind fun b=>(mF a).bind fun n=>(mF b).bind fun c=>
      (aX P t).bind λtv=>match tv with
      | .slice el sz by_=>(dU P el).bind fun z=>
        if 0<=n/\n<=c/\c<=2 ^ 47/\c*by_<=2 ^ 47/\z.length=sz then some (.fresh sz n.toNat (List.replicate n.toNat z).flatten)else none
      |_=>none):=kw (λ_ _ _ h=>by cases h) rfl
theorem af2{t lo hi}:dw P C cp ci lvl e h d (.slice t x lo hi none)=qo lvl (d.getD 0) h ((aB e.get x).bind λa=>(qf (aB e.get) lo).bind λl=>(qf (aB e.get) hi).bind λr=>lg P t h.get a l r):=kw (λ_ _ _ h=>by cases h) rfl
theorem afE{t m ps}:dw P C cp ci lvl e h d (.buildSlice t m ⟨ps⟩)=qo lvl (d.getD 0) h ((aZ (λp:Nat×Operand=>(aB e.get p.2).bind λy=>some (p.1,y)) ps).bind λps=>uO P t m ps):=kw (λ_ _ _ h=>by cases h) rfl
theorem afD{t ps}:dw P C cp ci lvl e h d (.build t ⟨ps⟩)=qo lvl (d.getD 0) h ((aZ (λp:Nat×Operand=>(aB e.get p.2).bind λy=>some (p.1,y)) ps).bind λps=>wB P t ps):=kw (λ_ _ _ h=>by cases h) rfl
theorem afR{ts}:dw P C cp ci lvl e h d (.call ⟨.builtin .len,⟨[x]⟩,ts⟩)=qo lvl (d.getD 0) h ((aB e.get x).bind fun a=>jh P .len ts [a]):=by
  rw[kw (λ_ _ _ h=>by cases h) rfl]
  simp only[aq,aZ]
  cases aB e.get x <;> rfl
theorem afU{ts}:dw P C cp ci lvl e h d (.call ⟨.builtin .max,⟨[x,y]⟩,ts⟩)=qo lvl (d.getD 0) h ((aB e.get x).bind fun a=>(aB e.get y).bind fun b=>jh P .max ts [a,b]):=by
  rw[kw (λ_ _ _ h=>by cases h) rfl]
  simp only[aq,aZ]
  cases aB e.get x <;> cases aB e.get y <;> rfl
theorem afz{args ts}:dw P C cp ci lvl e h d (.call ⟨.builtin .append,⟨args⟩,ts⟩)=aS P lvl e.get h (d.getD 0) (.call ⟨.builtin .append,⟨args⟩,ts⟩):=by
  have:aq P e.get h.get (.call ⟨.builtin .append,⟨args⟩,ts⟩)=none:=by
    simp only[aq]
    cases aZ (aB e.get) args with
    |none=>rfl
    |some as=>simp only[ai,jh]
  unfold dw
  simp only[this]
def uV(lvl d:Nat)(h:Heap):Option (AV×List Id)→Option (AV×Heap)
  |some (r,fl)=>qo lvl d (dV h fl) (some r)
  |none=>none
theorem ai0{d:Nat}{r:AV}:uV lvl d h (some (r,[]))=qo lvl d h (some r):=rfl
theorem Xw{d:Nat}{r:Option (AV×List Id)}:(r.bind fun r=>(bC lvl d 4 r.1 (0,dV h r.2)).bind fun r=>some (r.1,r.2.2))=uV lvl d h r:=by
  rcases r with _|⟨r,fl⟩ <;> rfl
theorem VA{k args ts}(hi:C.inl k=false):dw P C cp ci lvl e h d (.call ⟨.value (.func k),⟨args⟩,ts⟩)=
    (aZ (aB e.get) args).bind λas=>uV lvl (d.getD 0) h (mr cp h.get k as):=by
  simp only[dw,aB,ai,qX,List.nil_append,List.append_nil,hi,Bool.false_eq_true,if_false]
  congr 1
  funext as
  rw[← Xw]
def yZ(C:bG)(cp:aC)(ci:bz)(lvl d:Nat)(h:Heap)(as:Option (List AV)):AV→Option (AV×Heap)
  | .fn k first cap=>as.bind λas=>if C.inl k=true then ci (lvl+1) k (first++as++cap) h else uV lvl d h (mr cp h.get k (first++as++cap))
  |_=>none
theorem Z8{dd:Nat}{as:List AV}{k:FuncId}{first cap:List AV}(hi:C.inl k=false):yZ C cp ci lvl dd h (some as) (.fn k first cap)=uV lvl dd h (mr cp h.get k (first++as++cap)):=by simp[yZ,hi]
theorem afG{t args ts}:dw P C cp ci lvl e h d (.call ⟨.value (.tmp t),⟨args⟩,ts⟩)=
    (e.get t).bind (yZ C cp ci lvl (d.getD 0) h (aZ (aB e.get) args)):=by
  simp only[dw,aB]
  congr 1
  funext x
  cases x <;> try rfl
  simp only[qX,ai,yZ]
  congr 1
  funext as
  rw[← Xw]
theorem aez{k:FuncId}{as:List AV}{g:Id→Option ak}:mr cp g k as=(aZ (aG g 4) as).bind fun bs=>(cp k bs).bind fun r=>
    some (r,if(as.map (aW g 4)).flatten.isEmpty=true then []else if alias 4 r=true then(as.map (aW g 4)).flatten else []):=rfl
def Rt(i:Nat):AV→Option AV
  | .tuple xs=>xs[i]?
  |_=>none
theorem afJ{i x}:dw P C cp ci lvl e h d (.extract x i)=qo lvl (d.getD 0) h ((aB e.get x).bind (Rt i)):=by
  rw[afK]
  rfl
theorem amL{i xs}:Rt i (.tuple xs)=xs[i]? :=rfl
end ops
theorem af8:kK P C cp ci lvl all 0 os e h=ji P C cp ci lvl all os e h:=by cases os <;> rfl
theorem af6{k d op ty pos after}:kK P C cp ci lvl all (k+1) (⟨d,op,ty,pos,after,none⟩::os) e h=
  (qo lvl (d.getD 0) h (bZ P C cp e.get h.get op)).bind (L8 (kK P C cp ci lvl all k os) d e):=by
  show(bZ P C cp e.get h.get op).bind _=_
  cases bZ P C cp e.get h.get op with
  |none=>rfl
  | some t=>
    simp only[qo,ai]
    cases bC lvl (d.getD 0) 4 t (0,h) <;> rfl
theorem af7{k d op ty pos after g}:kK P C cp ci lvl all (k+1) (⟨d,op,ty,pos,after,some g⟩::os) e h=
  (o7 all e.get ⟨d,op,ty,pos,after,some g⟩).bind (NP (kK P C cp ci lvl all k os) (qo lvl (d.getD 0) h (bZ P C cp e.get h.get op)) d e h):=by
  show Option.bind (o7 all e.get ⟨d,op,ty,pos,after,some g⟩) _=_
  congr 1
  funext wd
  cases wd with
  |false=>rfl
  | true=>
    show(bZ P C cp e.get h.get op).bind _=_
    simp only[NP,if_true]
    cases bZ P C cp e.get h.get op with
    |none=>rfl
    | some t=>
      simp only[qo,ai]
      cases bC lvl (d.getD 0) 4 t (0,h) <;> rfl
section aq
variable {e:Nat->Option AV} {g:Id->Option ak} {x y a:Operand}
theorem ag8:bZ P C cp e g (.move x)=aB e x:=rfl
theorem agN:bZ P C cp e g (.assign x)=aB e x:=rfl
theorem agO{op t t'}:bZ P C cp e g (.binOp op t x y t')=(aB e x).bind λa=>(aB e y).bind λb=>pq P op t a b:=rfl
theorem ahd{op t}:bZ P C cp e g (.unOp op t x)=(aB e x).bind λa=>yx op a:=rfl
theorem ag3{t}:bZ P C cp e g (.load t a)=(aB e a).bind λp=>pz P g t p:=rfl
theorem ag1{t}:bZ P C cp e g (.indexAddr t x y)=(aB e x).bind λa=>(aB e y).bind λb=>(mF b).bind λn=>oJ P t g a n:=rfl
theorem agZ{s i}:bZ P C cp e g (.fieldAddr s x i)=(aB e x).bind λa=>nK P s g a i:=rfl
theorem ag2{ts}:bZ P C cp e g (.call ⟨.builtin .len,⟨[x]⟩,ts⟩)=(aB e x).bind fun a=>jh P .len ts [a]:=by
  simp only[bZ,aq,aZ]
  cases aB e x <;> rfl
theorem aha{c b}:bZ P C cp e g (.pick c a b)=(aB e c).bind fun c=>match c with
    | .v (.bool t)=>if t=true then aB e a else aB e b
    |_=>none:=rfl
theorem agT{k args ts}:bZ P TQ cp e g (.call ⟨.value (.func k),⟨args⟩,ts⟩)=(aZ (aB e) args).bind fun as=>(mr cp g k as).bind fun r=>if r.2.isEmpty=true then some r.1 else if iG 4 r.1=false then some r.1 else none:=by
  simp only[bZ,aB,ai,qX,List.nil_append,List.append_nil,TQ,Bool.false_eq_true,if_false]
end aq
theorem av4{e:Nat->Option AV}{t}:aB e (.tmp t)=e t:=rfl
theorem avX{e:Nat->Option AV}{f}:aB e (.func f)=some (.fn f [] []):=rfl
theorem avY{e:Nat->Option AV}{k x}:aB e (.const (.int k x))=some (.v (.int k x)):=rfl
theorem avW{e:Nat->Option AV}{x}:aB e (.const (.bool x))=some (.v (.bool x)):=rfl
theorem avZ{e:Nat->Option AV}{a m c}:aB e (.const (.slice a m c))=some (.v (.slice a m c)):=rfl
theorem av7{α β:Type}{f:α->Option β}:aZ f []=some []:=rfl
theorem Ud{α β:Type}{f:α->Option β}{x:α}{xs:List α}:aZ f (x::xs)=(f x).bind λy=>(aZ f xs).bind λys=>some (y::ys):=rfl
theorem aes{op t k k' x y}:pq P op t (.v (.int k x)) (.v (.int k' y))=gW op k k' x y:=rfl
section ints
variable {x y:Int} {k:IntKind}
theorem ahL:gW .lss k k x y=some (.v (.bool (decide (x<y)))):=by simp[gW,BinOp.lH,BinOp.mO,xe]
theorem ahK:gW .leq k k x y=some (.v (.bool (decide (x<=y)))):=by simp[gW,BinOp.lH,BinOp.mO,xe]
theorem ahJ:gW .gtr k k x y=some (.v (.bool (decide (y<x)))):=by simp[gW,BinOp.lH,BinOp.mO,xe]
theorem ahI:gW .geq k k x y=some (.v (.bool (decide (y<=x)))):=by simp[gW,BinOp.lH,BinOp.mO,xe]
theorem ahH:gW .eql k k x y=some (.v (.bool (decide (x=y)))):=by simp[gW,BinOp.lH,BinOp.mO,xe];exact(Bool.beq_eq_decide_eq x y)
theorem ahM:gW .neq k k x y=some (.v (.bool (!decide (x=y)))):=by simp[gW,BinOp.lH,BinOp.mO,xe,bne,Bool.beq_eq_decide_eq]
theorem wrap64(h1: -9223372036854775808≤x)(h2:x<9223372036854775808):IntKind.i64.wrap x=x:=by
  simp[IntKind.wrap,IntKind.signed,IntKind.bits]
  omega
end ints
theorem aib:(true==true)=true:=rfl
theorem aia:(true==false)=false:=rfl
theorem ah9:(false==true)=false:=rfl
theorem ah8:(false==false)=true:=rfl
theorem amg{k}:Env.get [] k=none:=rfl
theorem amf{j k x}{e:Env}:Env.get ((j,x)::e) k=if j=k then some x else Env.get e k:=rfl
theorem aqr{k}:Heap.get [] k=none:=rfl
theorem aqp{j k x}{h:Heap}:Heap.get ((j,x)::h) k=if j=k then some x else Heap.get h k:=rfl
def iv(x:Int):AV:= .v (.int .i64 x)
def ints(l:List Int):List AV:=l.map iv
def asInt:AV→Option Int
  | .v (.int .i64 x)=>some x
  |_=>none
end
end Go.Av
