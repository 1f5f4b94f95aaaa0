/- A small interpreter for the loaded program: slices, structs and closures as plain data; what a function owns stands in a list of named rows. Conditions: none; this file only defines it. -/
import GoSem.Claim
import Derived.WalkKit
import Derived.StillTail
namespace Go.Av
theorem ae {p : Prop} (h : p := by omega) : p := h
theorem au {p : Prop} (h : p := by decide) : p := h
theorem af {a b : Prop} (h : a) (k : b) : a ∧ b := ⟨h, k⟩
theorem aA {α β : Type} {o : Option α} {f : α → Option β} {b : β} : o.bind f = some b ↔ ∃ a, o = some a ∧ f a = some b := Option.bind_eq_some_iff
theorem aH {α : Type} {a b : α} : (some a = some b) = (a = b) := Option.some.injEq a b
abbrev Id:=Nat×Nat×Nat
inductive AV where
  |v (x:Value)
  |arr (n:Nat) (xs:List AV)
  |own (id:Id) (off n ext:Nat)
  |ptr (id:Id) (off ext:Nat)
  |ay (xs:List AV) (off:Nat)
  |fn (f:FuncId) (first captured:List AV)
  |agg (xs:List AV)
  |tuple (xs:List AV)
  |fresh (sz n:Nat) (xs:List AV)
  |freshO (sz n:Nat) (xs:List AV)
  |newbx (xs:List AV)
  deriving Inhabited
inductive ak where
  |sl (cl rw:Bool) (sz ext:Nat) (cells:List AV)
  |bx (rw:Bool) (cells:List AV)
  deriving Inhabited
def ak.ext:ak→Nat
  | .sl _ _ _ n _=>n
  | .bx _ _=>0
def ak.rw:ak→Bool
  | .sl _ r _ _ _=>r
  | .bx r _=>r
def ak.cells:ak→List AV
  | .sl _ _ _ _ xs=>xs
  | .bx _ xs=>xs
def ak.freeze:ak→ak
  | .sl c _ s n xs=> .sl c false s n xs
  | .bx _ xs=> .bx false xs
abbrev Env:=List (Nat×AV)
abbrev Heap:=List (Id×ak)
def Env.get:Env→Nat→Option AV
  |[],_=>none
  |(j,x)::e,k=>if j=k then some x else Env.get e k
def Env.set:Env→Nat→AV→Env
  |[],k,y=>[(k,y)]
  |(j,x)::e,k,y=>if j=k then(j,y)::e else if k<j then(k,y)::(j,x)::e else(j,x)::Env.set e k y
def jJ:List Nat→Nat→Bool
  |[],_=>false
  |j::l,k=>if j=k then true else jJ l k
def Env.drop(ds:List Nat):Env→Env
  |[]=>[]
  |(j,x)::e=>if jJ ds j=true then Env.drop ds e else(j,x)::Env.drop ds e
def Heap.get:Heap→Id→Option ak
  |[],_=>none
  |(j,x)::h,k=>if j=k then some x else Heap.get h k
def Heap.set:Heap→Id→ak→Heap
  |[],k,y=>[(k,y)]
  |(j,x)::h,k,y=>if j=k then(j,y)::h else(j,x)::Heap.set h k y
def Heap.new(h:Heap)(k:Id)(y:ak):Option Heap:=
  match Heap.get h k with
  |none=>some (Heap.set h k y)
  |some _=>none
def lift:Value→AV
  | .agg ⟨cs⟩=> .agg (cs.map .v)
  | .func (.func f) ⟨[]⟩ ⟨[]⟩=> .fn f [] []
  |x=> .v x
def AV.isC:AV→Bool
  | .v (.slice _ _ _)=>false
  | .v _=>true
  | .arr _ _=>true
  | .ay _ _=>true
  |_=>false
def AV.cells:AV→List AV
  | .agg xs=>xs
  |x=>[x]
def AV.one:AV→Bool
  | .v (.agg _)=>false
  | .v (.tuple _)=>false
  | .v _=>true
  | .arr _ _=>true
  | .own _ _ _ _=>true
  | .ptr _ _ _=>true
  | .ay _ _=>true
  | .fn _ _ _=>true
  |_=>false
section
variable (P:Program)
def bD(t:TypeId):Nat:=P.cellsOf t
def dU(t:TypeId):Option (List AV):=((P.info? t).bind (·.zero)).map λz=>z.cells.toList.map .v
inductive TV where
  |slice (e:TypeId) (sz bytes:Nat)
  |array (n:Nat) (e:TypeId) (sz:Nat)
  |struct
  |str
  |int (k:IntKind)
  |bool
  |other
def aX(t:TypeId):Option TV:=
  match P.underlying t with
  |some (.slice e)=>(P.info? e).map λi=> .slice e i.size i.bytes
  |some (.array n e)=>(P.info? e).map λi=> .array n e i.size
  |some (.struct fs)=>if fs.all (λf=>(P.info? f.type).isSome)=true then some .struct else none
  |some .string=>some .str
  |some (.int k)=>some (.int k)
  |some .bool=>some .bool
  |some _=>some .other
  |none=>none
def dR(s:TypeId)(i:Nat):Option (Nat×TypeId):=
  match P.underlying s with
  |some (.struct fs)=>(fs[i]?).map λf=>(f.offset,f.type)
  |_=>none
def mQ:Nat→TypeId→List Nat
  |0,_=>[]
  | d+1,t=>match P.underlying t with
    |some (.slice e)=>[bD P e+1]
    |some (.struct fs)=>(fs.toList.map λf=>mQ d f.type).flatten
    |some (.array n e)=>(List.replicate n (mQ d e)).flatten
    |_=>[0]
def xe(op:BinOp)(a b:Int):Option Bool:=
  match op with
  | .eql=>some (a==b)
  | .neq=>some (a != b)
  | .lss=>some (decide (a<b))
  | .leq=>some (decide (a<=b))
  | .gtr=>some (decide (a>b))
  | .geq=>some (decide (a≥b))
  |_=>none
def wH(op:BinOp)(k:IntKind)(a b:Int):Option Int:=
  match op with
  | .and=>some (k.wrap (BitVec.ofInt k.bits a &&& BitVec.ofInt k.bits b).toNat)
  | .or=>some (k.wrap (BitVec.ofInt k.bits a ||| BitVec.ofInt k.bits b).toNat)
  | .xor=>some (k.wrap (BitVec.ofInt k.bits a ^^^ BitVec.ofInt k.bits b).toNat)
  | .andNot=>some (k.wrap (BitVec.ofInt k.bits a &&& ~~~BitVec.ofInt k.bits b).toNat)
  |_=>none
def rZ(op:BinOp)(k:IntKind)(a b:Int):Option Int:=
  match op with
  | .add=>some (k.wrap (a+b))
  | .sub=>some (k.wrap (a - b))
  | .mul=>some (k.wrap (a*b))
  | .quo=>if b=0 then none else some (k.wrap (a.tdiv b))
  | .rem=>if b=0 then none else some (a.tmod b)
  |op=>wH op k a b
def Nk(op:BinOp)(k:IntKind)(a b:Int):Option Int:=
  match op with
  | .shl=>if b<0 then none else some (k.wrap (a*2 ^ (min b.toNat k.bits)))
  | .shr=>if b<0 then none else some (a.fdiv (2 ^ (min b.toNat k.bits)))
  |_=>none
def BinOp.lH:BinOp→Bool
  | .shl=>true| .shr=>true|_=>false
def BinOp.mO:BinOp→Bool
  | .eql=>true| .neq=>true| .lss=>true| .leq=>true| .gtr=>true| .geq=>true|_=>false
def gW(op:BinOp)(k k':IntKind)(a b:Int):Option AV:=
  if BinOp.lH op=true then(Nk op k a b).bind λr=>some (.v (.int k r))
  else if k=k' then
    if BinOp.mO op=true then(xe op a b).bind λr=>some (.v (.bool r))else(rZ op k a b).bind λr=>some (.v (.int k r))
  else none
def Aj(op:BinOp)(a b:Bool):Option AV:=
  match op with
  | .eql=>some (.v (.bool (a==b)))
  | .neq=>some (.v (.bool (!(a==b))))
  |_=>none
def yf(op:BinOp)(b:Bool):Option AV:=
  match op with
  | .eql=>some (.v (.bool b))
  | .neq=>some (.v (.bool (!b)))
  |_=>none
def yx(op:UnOp)(x:AV):Option AV:=
  match op,x with
  | .not,.v (.bool b)=>some (.v (.bool !b))
  | .neg,.v (.int k n)=>some (.v (.int k (k.wrap (0 - n))))
  | .xor,.v (.int k n)=>(wH .xor k (if k.signed then -1 else k.max) n).bind λr=>some (.v (.int k r))
  |_,_=>none
def cut(cells:List AV)(off n sz ext:Nat):List AV:=
  if off=0/\n=ext then cells else(cells.drop off).take (n*sz)
def wF(x:AV):Option Nat:=
  match x with
  | .arr n _=>some n
  | .own _ _ n _=>some n
  | .v (.slice none 0 _)=>some 0
  |_=>none
def part(cells:List AV)(t:TypeId)(off:Nat):Option AV:=
  (aX P t).bind λtv=>match tv with
  | .struct=>if off+bD P t<=cells.length then some (.agg ((cells.drop off).take (bD P t)))else none
  | .array _ _ _=>if off+bD P t<=cells.length then some (.agg ((cells.drop off).take (bD P t)))else none
  |_=>cells[off]?
def Ap(f:Nat→Option Bool):List Nat→Option Bool
  |[]=>some true
  |i::l=>(f i).bind λb=>if b=true then Ap f l else some false
def Am(f:Field→Option Bool):List Field→Option Bool
  |[]=>some true
  |x::l=>(f x).bind λb=>(Am f l).bind λc=>some (b&&c)
def Ak(P:Program):Nat→TypeId→AV→AV→Option Bool
  |0,_,_,_=>none
  | d +1,t,x,y=>(aX P t).bind fun tv=>match tv,x,y with
    | .int _,.v (.int k a),.v (.int k' b)=>if k=k' then some (a==b)else none
    | .array n el sz,.agg xs,.agg ys=>Ap (λi=>(part P xs el (i*sz)).bind λa=>(part P ys el (i*sz)).bind λb=>Ak P d el a b) (List.range n)
    | .struct,.agg xs,.agg ys=>match P.underlying t with
      |some (.struct fs)=>if P.stoodInHeld t=false/\fs.toList.all (λf=>f.name != "_")=true then Am (λf=>(part P xs f.type f.offset).bind λa=>(part P ys f.type f.offset).bind λb=>Ak P d f.type a b) fs.toList else none
      |_=>none
    |_,_,_=>none
def pq(op:BinOp)(t:TypeId)(x y:AV):Option AV:=
  match x,y with
  | .v (.int k a),.v (.int k' b)=>gW op k k' a b
  | .v (.bool a),.v (.bool b)=>(aX P t).bind fun tv=>match tv with
    | .bool=>Aj op a b
    |_=>none
  | .v (.slice a _ _),.v (.slice none _ _)=>(aX P t).bind fun tv=>match tv with
    | .slice _ _ _=>yf op a.isNone
    |_=>none
  | .arr n _,.v (.slice none _ _)=>if n=0 then none else(aX P t).bind fun tv=>match tv with
    | .slice _ _ _=>yf op false
    |_=>none
  | .agg xs,.agg ys=>match op with
    | .eql=>if P.eqGuardType P.depth t=false then(Ak P 4 t (.agg xs) (.agg ys)).bind λb=>some (.v (.bool b))else none
    |_=>none
  |_,_=>none
def pz(g:Id→Option ak)(t:TypeId)(x:AV):Option AV:=
  match x with
  | .ptr id off ext=>(g id).bind λb=>if b.ext=ext then part P b.cells t off else none
  | .ay xs off=>part P xs t off
  |_=>none
def putCells(cells:List AV)(off:Nat):List AV→List AV
  |[]=>cells
  |x::xs=>putCells (cells.set off x) (off+1) xs
def live(g:Id→Option ak)(id:Id)(ext:Nat):Bool:=
  match g id with
  |some b=>b.ext==ext
  |none=>false
def nK(s:TypeId)(g:Id→Option ak)(x:AV)(i:Nat):Option AV:=
  (dR P s i).bind fun(o,t)=>if bD P t=0 then none else
    match x with
    | .ptr id off ext=>if live g id ext=true then some (.ptr id (off+o) ext)else none
    | .ay xs off=>some (.ay xs (off+o))
    |_=>none
def oJ(t:TypeId)(g:Id→Option ak)(x:AV)(i:Int):Option AV:=
  (aX P t).bind λtv=>match tv,x with
  | .slice _ sz _,.arr n xs=>if 0<=i/\i<n then some (.ay xs (i.toNat*sz))else none
  | .slice _ sz _,.own id off n ext=>(g id).bind fun b=>
    match b with
    | .sl _ _ sz' ext' _=>if sz'=sz/\ext'=ext/\0<=i/\i<n then some (.ptr id (off+i.toNat*sz) ext)else none
    |_=>none
  | .array n _ sz,.ptr id off ext=>if live g id ext=true/\0<=i/\i<n then some (.ptr id (off+i.toNat*sz) ext)else none
  | .array n _ sz,.ay xs off=>if 0<=i/\i<n then some (.ay xs (off+i.toNat*sz))else none
  |_,_=>none
def wE(t:TypeId)(x:AV)(i:Int):Option AV:=
  (aX P t).bind λtv=>match tv,x with
  | .array n e sz,.agg xs=>if 0<=i/\i<n then part P xs e (i.toNat*sz)else none
  | .str,.v (.string s)=>if 0<=i then(s[i.toNat]?).bind λb=>some (.v (.int .u8 b.toNat))else none
  |_,_=>none
def mD(place:Nat→Option (Nat×Nat))(cells:List AV):List (Nat×AV)→Option (List AV)
  |[]=>some cells
  | (i,x)::rest=>(place i).bind fun(off,size)=>
    if x.cells.length=size/\off+size<=cells.length/\x.cells.all AV.one=true then mD place (putCells cells off x.cells) rest else none
def wB(t:TypeId)(parts:List (Nat×AV)):Option AV:=
  (dU P t).bind λz=>(aX P t).bind λtv=>match tv with
  | .struct=>(mD (λi=>(dR P t i).map λ(o,ft)=>(o,bD P ft)) z parts).bind λxs=>some (.agg xs)
  | .array _ _e sz=>(mD (λi=>some (i*sz,sz)) z parts).bind λxs=>some (.agg xs)
  |_=>none
def uO(t:TypeId)(len:Nat)(parts:List (Nat×AV)):Option AV:=
  (aX P t).bind λtv=>match tv with
  | .slice e sz _=>(dU P e).bind fun z=>
    if len*sz≤2 ^ 24∧z.length=sz∧0<sz then
      (mD (λi=>some (i*sz,sz)) (List.replicate len z).flatten parts).bind λxs=>some (if xs.all AV.isC=true then .fresh sz len xs else .freshO sz len xs)
    else none
  |_=>none
def iP(x:Option AV)(d:Nat):Option Nat:=
  match x with
  |none=>some d
  |some (.v (.int _ n))=>if 0<=n then some n.toNat else none
  |_=>none
def lg(t:TypeId)(g:Id→Option ak)(x:AV)(lo hi:Option AV):Option AV:=
  (aX P t).bind λtv=>match tv,x with
  | .slice _ sz _,.arr n xs=>(iP lo 0).bind fun l=>(iP hi n).bind fun r=>
      if l<=r/\r<=n then some (.arr (r - l) (if l=0/\r=n then xs else(xs.drop (l*sz)).take ((r - l)*sz)))else none
  | .slice _ sz _,.own id off n ext=>(g id).bind fun b=>match b with
    | .sl _ _ sz' ext' _=>(iP lo 0).bind fun l=>(iP hi n).bind fun r=>
      if sz'=sz/\ext'=ext/\l<=r/\off+r*sz<=ext*sz/\0<sz then some (.own id (off+l*sz) (r - l) ext)else none
    |_=>none
  | .slice _ _ _,.v (.slice none 0 0)=>(iP lo 0).bind λl=>(iP hi 0).bind λr=>if l=0/\r=0 then some (.v (.slice none 0 0))else none
  |_,_=>none
def aG(g:Id→Option ak):Nat→AV→Option AV
  |_,.v (.slice _ 0 _)=>some (.arr 0 [])
  |_,.v x=>some (.v x)
  |_,.arr n xs=>some (.arr n xs)
  |_,.ay xs off=>some (.ay xs off)
  | 0,.own id off n ext=>(g id).bind fun b=>match b with
    | .sl true _ sz e cells=>if e=ext then some (.arr n (cut cells off n sz e))else none
    |_=>none
  | d+1,.own id off n ext=>(g id).bind fun b=>match b with
    | .sl true _ sz e cells=>if e=ext then some (.arr n (cut cells off n sz e))else none
    | .sl false _ sz e cells=>if e=ext then(cells.mapM (aG g d)).bind λcs=>some (.arr n (cut cs off n sz e))else none
    |_=>none
  |0,.ptr _ _ _=>none
  | d+1,.ptr id off ext=>(g id).bind fun b=>match b with
    | .bx _ cells=>if ext=0 then(cells.mapM (aG g d)).bind λxs=>some (.ay xs off)else none
    |_=>none
  |0,.fn f [] []=>some (.fn f [] [])
  |0,.fn _ _ _=>none
  |d+1,.fn f a b=>(a.mapM (aG g d)).bind λa'=>(b.mapM (aG g d)).bind λb'=>some (.fn f a' b')
  |0,.agg _=>none
  |d+1,.agg xs=>(xs.mapM (aG g d)).bind λys=>some (.agg ys)
  |0,.tuple _=>none
  |d+1,.tuple xs=>(xs.mapM (aG g d)).bind λys=>some (.tuple ys)
  |_,.fresh _ _ _=>none
  |_,.freshO _ _ _=>none
  |_,.newbx _=>none
def aW(g:Id→Option ak):Nat→AV→List Id
  |0,.own id _ _ _=>[id]
  |0,.ptr id _ _=>[id]
  |0,_=>[]
  | d+1,.own id _ _ _=>id::(match g id with
    |some (.sl false _ _ _ cells)=>(cells.map (aW g d)).flatten
    |_=>[])
  | d+1,.ptr id _ _=>id::(match g id with
    |some (.bx _ cells)=>(cells.map (aW g d)).flatten
    |_=>[])
  |d+1,.fn _ a b=>(a.map (aW g d)).flatten++(b.map (aW g d)).flatten
  |d+1,.agg xs=>(xs.map (aW g d)).flatten
  |d+1,.tuple xs=>(xs.map (aW g d)).flatten
  |_+1,_=>[]
def alias:Nat→AV→Bool
  |_,.v _=>false
  |_,.arr _ _=>true
  |d+1,.agg xs=>xs.any (alias d)
  |d+1,.tuple xs=>xs.any (alias d)
  |d+1,.newbx xs=>xs.any (alias d)
  |d+1,.fresh _ _ xs=>xs.any (alias d)
  |_,.fn _ [] []=>false
  |_,_=>true
def iG:Nat→AV→Bool
  |_,.v _=>false
  |_,.arr 0 []=>false
  |_,.arr _ _=>true
  |d+1,.agg xs=>xs.any (iG d)
  |d+1,.tuple xs=>xs.any (iG d)
  |d+1,.newbx xs=>xs.any (iG d)
  |d+1,.fresh _ _ xs=>xs.any (iG d)
  |_,.fn _ [] []=>false
  |_,_=>true
def fO:List AV→List Nat→List AV
  | .v (.slice none 0 0)::xs,(s+1)::ss=> .fresh s 0 []::fO xs ss
  |x::xs,_::ss=>x::fO xs ss
  |xs,[]=>xs
  |[],_=>[]
def typed(t:TypeId)(x:AV):AV:=
  match x with
  | .agg xs=> .agg (fO xs (mQ P 4 t))
  | x=>match fO [x] (mQ P 4 t)with
    |[y]=>y
    |_=>x
def fE{S:Type}(f:AV→S→Option (AV×S)):List AV→S→Option (List AV×S)
  |[],s=>some ([],s)
  |x::xs,s=>(f x s).bind λ(y,s1)=>(fE f xs s1).bind λ(ys,s2)=>some (y::ys,s2)
def qY(g:Id→Option ak)(i:Id):Bool:=
  match g i with
  |some b=> !b.rw
  |none=>false
def kZ(g:Id→Option ak):Nat→AV→List Id
  | d+1,.own id off n ext=>match g id with
    |some (.sl false _ _ _ _)=>aW g (d+1) (.own id off n ext)
    |_=>[]
  | d+1,.ptr id _ _=>match g id with
    |some (.bx _ cells)=>(cells.map (kZ g d)).flatten
    |_=>[]
  |d+1,.agg xs=>(xs.map (kZ g d)).flatten
  |d+1,.tuple xs=>(xs.map (kZ g d)).flatten
  |d+1,.fn f a b=>aW g (d+1) (.fn f a b)
  |_,_=>[]
def fQ (g:Id→Option ak):Nat→AV→List Id→Option (AV×List Id)
  |_,.v x,us=>some (.v x,us)
  |_,.arr n xs,us=>some (.arr n xs,us)
  |_,.ay xs off,us=>some (.ay xs off,us)
  |_,.fn f [] [],us=>some (.fn f [] [],us)
  | 0,.own id off n ext,us=>(g id).bind fun b=>match b with
    | .sl true true sz e cells=>if e=ext/\off=0/\n<=e/\us.contains id=false then some (.fresh sz n (cut cells off n sz e),id::us)else none
    | .sl true false sz e cells=>if e=ext then some (.arr n (cut cells off n sz e),us)else none
    |_=>none
  | d + 1, .own id off n ext,us=>(g id).bind fun b=>match b with
    | .sl true true sz e cells=>if e=ext/\off=0/\n<=e/\us.contains id=false then some (.fresh sz n (cut cells off n sz e),id::us)else none
    | .sl true false sz e cells=>if e=ext then some (.arr n (cut cells off n sz e),us)else none
    | .sl false false sz e cells=>if e=ext∧((cells.map (aW g d)).flatten).all (qY g)=true then
            (cells.mapM (aG g d)).bind λcs=>some (.arr n (cut cs off n sz e),us)else none
    |_=>none
  | d +1,.ptr id off ext,us=>if off=0∧ext=0∧us.contains id=false then(g id).bind fun b=>match b with
      | .bx true cells=>(fE (fQ g d) cells (id::us)).bind λ(xs,us')=>some (.newbx xs,us')
      |_=>none
    else none
  |d+1,.agg xs,us=>(fE (fQ g d) xs us).bind λ(ys,us')=>some (.agg ys,us')
  |d+1,.tuple xs,us=>(fE (fQ g d) xs us).bind λ(ys,us')=>some (.tuple ys,us')
  |d+1,.fn f a b,us=>if(aW g (d+1) (.fn f a b)).all (qY g)=true then(aG g (d+1) (.fn f a b)).bind λy=>some (y,us)else none
  |_,_,_=>none
def dV(h:Heap):List Id→Heap
  |[]=>h
  | i::is=>match Heap.get h i with
    |some b=>dV (h.set i b.freeze) is
    |none=>dV h is
def nR(h:Heap)(lvl slot:Nat):Nat→Nat→Nat
  |0,k=>k
  |n+1,k=>if(Heap.get h (lvl,slot,k)).isNone=true then k else nR h lvl slot n (k+100)
def lC(h:Heap)(lvl slot k:Nat):Nat:=nR h lvl slot 8 k
def bC(lvl slot:Nat):Nat→AV→Nat×Heap→Option (AV×Nat×Heap)
  |_,.v x,s=>some (.v x,s)
  |_,.fresh sz n xs,(k,h)=>(h.new (lvl,slot,lC h lvl slot k) (.sl true true sz n xs)).bind λh'=>some (.own (lvl,slot,lC h lvl slot k) 0 n n,k+1,h')
  |_,.freshO sz n xs,(k,h)=>(h.new (lvl,slot,lC h lvl slot k) (.sl false true sz n xs)).bind λh'=>some (.own (lvl,slot,lC h lvl slot k) 0 n n,k+1,h')
  |d+1,.newbx xs,s=>(fE (bC lvl slot d) xs s).bind λ(ys,k,h)=>(h.new (lvl,slot,k) (.bx true ys)).bind λh'=>some (.ptr (lvl,slot,k) 0 0,k+1,h')
  |0,.newbx _,_=>none
  |d+1,.agg xs,s=>(fE (bC lvl slot d) xs s).bind λ(ys,s')=>some (.agg ys,s')
  |0,.agg _,_=>none
  |d+1,.tuple xs,s=>(fE (bC lvl slot d) xs s).bind λ(ys,s')=>some (.tuple ys,s')
  |0,.tuple _,_=>none
  |_,x,s=>some (x,s)
abbrev aC:=FuncId->List AV->Option AV
abbrev bz:=Nat->FuncId->List AV->Heap->Option (AV×Heap)
structure bG where
  inl:FuncId->Bool
  drops:FuncId->List (Nat×List Nat)
def aB(e:Nat→Option AV):Operand→Option AV
  | .tmp t=>e t
  | .const x=>some (lift x)
  | .global _=>none
  | .func f=>some (.fn f [] [])
def aZ{α β:Type}(f:α→Option β):List α→Option (List β)
  |[]=>some []
  |x::xs=>(f x).bind λy=>(aZ f xs).bind λys=>some (y::ys)
def qf{α β:Type}(f:α→Option β):Option α→Option (Option β)
  |none=>some none
  |some x=>(f x).bind λy=>some (some y)
def mF(x:AV):Option Int:=
  match x with
  | .v (.int _ n)=>some n
  |_=>none
def l7(g:Id→Option ak)(x:AV):Option (Nat×List AV):=
  (aG g 4 x).bind λy=>match y with
  | .arr n xs=>some (n,xs)
  |_=>none
def inner(g:Id→Option ak)(y:AV):List Id:=
  match y with
  | .own id _ _ _=>match g id with
    |some (.sl false _ _ _ cells)=>(cells.map (aW g 3)).flatten
    |_=>[]
  |_=>[]
def jh(b:Builtin)(ts:Array TypeId)(args:List AV):Option AV:=
  match b,args with
  | .len,[x]=>(ts[0]?).bind fun t=>(aX P t).bind fun tv=>match tv with
    | .slice _ _ _=>(wF x).bind λn=>some (.v (.int .i64 n))
    | .str=>match x with
      | .v (.string s)=>some (.v (.int .i64 s.size))
      |_=>none
    | .array n _ _=>some (.v (.int .i64 n))
    |_=>none
  | .cap,[.v (.slice none 0 0)]=>(ts[0]?).bind fun t=>(aX P t).bind fun tv=>match tv with
    | .slice _ _ _=>some (.v (.int .i64 0))
    |_=>none
  | .min,[.v (.int k a),.v (.int k' b)]=>if k=k' then some (.v (.int k (if b<a then b else a)))else none
  | .max,[.v (.int k a),.v (.int k' b)]=>if k=k' then some (.v (.int k (if b>a then b else a)))else none
  |_,_=>none
def aq (e:Nat→Option AV)(g:Id→Option ak)(o:Op):Option AV:=
  match o with
  | .move x| .assign x=>aB e x
  | .pick c a b=>(aB e c).bind fun c=>match c with
    | .v (.bool t)=>if t=true then aB e a else aB e b
    |_=>none
  | .alloc t=>(dU P t).bind λz=>some (.newbx z)
  | .box _ x=>(aB e x).bind λy=>if y.cells.all AV.one=true then some (.newbx y.cells)else none
  | .build t ⟨ps⟩=>(aZ (λp:Nat×Operand=>(aB e p.2).bind λy=>some (p.1,y)) ps).bind λps=>wB P t ps
  | .buildSlice t n ⟨ps⟩=>(aZ (λp:Nat×Operand=>(aB e p.2).bind λy=>some (p.1,y)) ps).bind λps=>uO P t n ps
  | .load t a=>(aB e a).bind λp=>pz P g t p
  | .nilCheck x=>(aB e x).bind fun y=>match y with
    | .ptr id _ ext=>if live g id ext=true then some y else none
    | .ay _ _=>some y
    | .fn _ _ _=>some y
    |_=>none
  | .binOp op t x y _=>(aB e x).bind λa=>(aB e y).bind λb=>pq P op t a b
  | .unOp op _ x=>(aB e x).bind λa=>yx op a
  | .convert src dst x=>(aB e x).bind fun a=>(aX P src).bind fun _=>(aX P dst).bind fun tv=>(mF a).bind fun n=>match tv with
    | .int k=>some (.v (.int k (k.wrap n)))
    |_=>none
  | .makeFunc (.func f) ⟨first⟩ ⟨cap⟩=>(aZ (aB e) first).bind λa=>(aZ (aB e) cap).bind λb=>some (.fn f a b)
  | .makeSlice t n c=>(aB e n).bind fun a=>(aB e c).bind fun b=>(mF a).bind fun n=>(mF b).bind fun c=>
      (aX P t).bind λtv=>match tv with
      | .slice el sz by_=>(dU P el).bind fun z=>
        if 0<=n/\n<=c/\c<=2 ^ 47/\c*by_<=2 ^ 47/\z.length=sz then some (.fresh sz n.toNat (List.replicate n.toNat z).flatten)else none
      |_=>none
  | .slice t x lo hi none=>(aB e x).bind λa=>(qf (aB e) lo).bind λl=>(qf (aB e) hi).bind λr=>lg P t g a l r
  | .fieldAddr s x f=>(aB e x).bind λa=>nK P s g a f
  | .field t x f=>(aB e x).bind fun a=>(dR P t f).bind fun(o,ft)=>match a with
    | .agg xs=>part P xs ft o
    |_=>none
  | .indexAddr t x i=>(aB e x).bind λa=>(aB e i).bind λb=>(mF b).bind λn=>oJ P t g a n
  | .index t x i=>(aB e x).bind λa=>(aB e i).bind λb=>(mF b).bind λn=>wE P t a n
  | .extract t i=>(aB e t).bind fun a=>match a with
    | .tuple xs=>xs[i]?
    |_=>none
  | .call ⟨.builtin b,⟨args⟩,ts⟩=>(aZ (aB e) args).bind λas=>jh P b ts as
  |_=>none
def qX(x:AV):Option (FuncId×List AV×List AV):=
  match x with
  | .fn k a b=>some (k,a,b)
  |_=>none
def mr(cp:aC)(g:Id→Option ak)(k:FuncId)(as:List AV):Option (AV×List Id):=
  (aZ (aG g 4) as).bind fun bs=>(cp k bs).bind fun r=>
    some (r,if(as.map (aW g 4)).flatten.isEmpty=true then []else if alias 4 r=true then(as.map (aW g 4)).flatten else [])
def zN:AV→Option AV
  | .fresh _ n xs=>if n=0/\xs.isEmpty=true then some (.arr 0 [])else some (.arr n xs)
  |_=>none
def DW:Op→Bool
  | .buildSlice _ _ _=>true
  |_=>false
def bZ(C:bG)(cp:aC)(e:Nat→Option AV)(g:Id→Option ak)(o:Op):Option AV:=
  match o with
  | .call ⟨.value f,⟨args⟩,_⟩=>(aB e f).bind fun f=>(qX f).bind fun(k,first,cap)=>(aZ (aB e) args).bind fun as=>
      if C.inl k=true then none else(mr cp g k (first++as++cap)).bind λ(r,fl)=>if fl.isEmpty=true then some r else if iG 4 r=false then some r else none
  |o=>if DW o=true/\(C.drops 0).isEmpty=false then(aq P e g o).bind zN else aq P e g o
def lh(h:Heap)(p y:AV):Option Heap:=
  match p with
  | .ptr id off ext=>(h.get id).bind fun b=>
    if b.ext=ext∧off+y.cells.length≤b.cells.length∧y.cells.all AV.one=true then
      match b with
      | .bx true cells=>some (h.set id (.bx true (putCells cells off y.cells)))
      | .sl false true sz ext cells=>some (h.set id (.sl false true sz ext (putCells cells off y.cells)))
      | .sl true true _ _ _=>(y.cells.mapM (aG h.get 4)).bind fun ys=>((dV h ((y.cells.map (aW h.get 4)).flatten)).get id).bind fun b'=>match b' with
        | .sl true true sz ext cells=>some ((dV h ((y.cells.map (aW h.get 4)).flatten)).set id (.sl true true sz ext (putCells cells off ys)))
        |_=>none
      |_=>none
    else none
  |_=>none
def Gz(lvl:Nat)(h:Heap)(dst:Nat)(tv tv':TV)(as:List AV):Option (AV×Heap):=
  match tv,tv',as with
  | .slice el esz by_,.int _,[.v (.slice none 0 0),.v (.int _ n)]=>(dU P el).bind fun z=>
    if z.length=esz/\0<esz/\0<=n/\n<=2 ^ 47/\n*by_<=2 ^ 47 then(bC lvl dst 4 (.fresh esz n.toNat (List.replicate n.toNat z).flatten) (0,h)).bind λ(y,_,h')=>some (y,h')else none
  |_,_,_=>none
def DJ(h:Heap)(id:Id)(n ext esz by_:Nat):AV→Option (AV×Heap)
  | .own idy 0 m exty=>(h.get id).bind fun b=>(h.get idy).bind fun b2=>match b,b2 with
    | .sl false true sz ext' cells,.sl false _ szy exty' ys=>if ext'=n∧ext=n∧sz=esz∧szy=esz∧exty'=m∧exty=m∧n+m≤2 ^ 47∧(n+m)*by_≤2 ^ 47∧ys.all AV.one=true then
        some (.own id 0 (n+m) (n+m),h.set id (.sl false true sz (n+m) (cells++ys)))else none
    |_,_=>none
  |_=>none
def QY(h:Heap)(d y:AV):Option (AV×Heap):=
  match d with
  | .own id off n ext=>(l7 h.get y).bind fun(m,ys)=>(h.get id).bind fun b=>match b with
    | .sl true true 1 ext' cells=>
      if ext'=ext∧ys.length=m∧0<m∧m≤n∧off+m≤cells.length∧ys.all AV.one=true∧(inner h.get y).isEmpty=true then
        some (.v (.int .i64 m),h.set id (.sl true true 1 ext' (putCells cells off ys)))else none
    |_=>none
  |_=>none
def aS (lvl :Nat)(e:Nat→Option AV)(h:Heap)(dst:Nat)(o:Op):Option (AV×Heap):=
  match o with
  | .store t a x=>(aB e a).bind λp=>(aB e x).bind λy=>if y.cells.length=bD P t/\0<bD P t then(lh h p y).bind λh'=>some (.v undef,h')else none
  | .call ⟨.builtin .append,⟨args⟩,ts⟩=>(aZ (aB e) args).bind fun as=>(ts[0]?).bind fun t=>(ts[1]?).bind fun t'=>if t=t' then(aX P t).bind fun tv=>match tv with
    | .slice el esz by_=>(dU P el).bind fun z=>if z.length=esz∧0<esz then match as with
      | [.own id 0 n ext,y]=>(l7 h.get y).bind fun(m,ys)=>((dV h (inner h.get y)).get id).bind fun b=>match b with
        | .sl true true sz ext' cells=>
          if ext'=n∧ext=n∧sz=esz∧ys.length=m*esz∧n+m≤2 ^ 47∧(n+m)*by_≤2 ^ 47∧ys.all AV.one=true then
            some (.own id 0 (n+m) (n+m),(dV h (inner h.get y)).set id (.sl true true sz (n+m) (cells++ys)))
          else none
        | .sl false true _ _ _=>DJ h id n ext esz by_ y
        |_=>none
      | [.v (.slice none 0 0),y]=>(l7 h.get y).bind fun(m,ys)=>
          if m*by_≤2 ^ 47∧ys.length=m*esz∧m≤2 ^ 47 then
            (bC lvl dst 4 (.fresh esz m ys) (0,dV h (inner h.get y))).bind λ(z,_,h')=>some (z,h')
          else none
      |_=>none
      else none
    |_=>none
    else(aX P t).bind λtv=>(aX P t').bind λtv'=>Gz P lvl h dst tv tv' as
  | .call ⟨.builtin .copy,⟨[d,s]⟩,⟨[t,_]⟩⟩=>(aB e d).bind fun x=>(aB e s).bind fun y=>(aX P t).bind fun tv=>match tv with
    | .slice _ 1 _=>QY h x y
    |_=>none
  |_=>none
def dw(C:bG)(cp:aC)(ci:bz)(lvl:Nat)(e:Env)(h:Heap)(dst:Option Tmp)(o:Op):Option (AV×Heap):=
  match o with
  | .call ⟨.value f,⟨args⟩,_⟩=>(aB e.get f).bind fun f=>(qX f).bind fun(k,first,cap)=>(aZ (aB e.get) args).bind fun as=>
      if C.inl k=true then ci (lvl+1) k (first++as++cap) h
      else(mr cp h.get k (first++as++cap)).bind λ(r,fl)=>(bC lvl (dst.getD 0) 4 r (0,dV h fl)).bind λ(y,_,h')=>some (y,h')
  | o=>match aq P e.get h.get o with
    |some t=>(bC lvl (dst.getD 0) 4 t (0,h)).bind λ(y,_,h')=>some (y,h')
    |none=>aS P lvl e.get h (dst.getD 0) o
def dX(e:Env):Option Tmp→AV→Env
  |some d,x=>e.set d x
  |none,_=>e
def o7(ops:List Oper)(e:Nat→Option AV)(o:Oper):Option Bool:=
  match o.guard with
  |none=>some true
  | some (j,want)=>match (ops[j]?).bind (·.dst)with
    | some d=>(e d).bind fun x=>match x with
      | .v (.bool b)=>some (b==want)
      | .v _=>some false
      |_=>none
    |none=>some false
def nI(ops:List Oper)(e:Env)(o:Oper):Option Bool:=o7 ops e.get o
def ji(C:bG)(cp:aC)(ci:bz)(lvl:Nat)(all:List Oper):List Oper→Env→Heap→Option (Env×Heap)
  |[],e,h=>some (e,h)
  | o::os,e,h=>(nI all e o).bind fun wd=>
    if wd=true then(dw P C cp ci lvl e h o.dst o.op).bind λ(y,h')=>ji C cp ci lvl all os (dX e o.dst y) h'
    else ji C cp ci lvl all os (dX e o.dst (.v undef)) h
def kK(C:bG)(cp:aC)(ci:bz)(lvl:Nat)(all:List Oper):Nat→List Oper→Env→Heap→Option (Env×Heap)
  |0,os,e,h=>ji P C cp ci lvl all os e h
  |_+1,[],e,h=>some (e,h)
  | k+1,o::os,e,h=>(nI all e o).bind fun wd=>
    if wd=true then(bZ P C cp e.get h.get o.op).bind λt=>(bC lvl (o.dst.getD 0) 4 t (0,h)).bind λ(y,_,h')=>kK C cp ci lvl all k os (dX e o.dst y) h'
    else kK C cp ci lvl all k os (dX e o.dst (.v undef)) h
def UB:Value→Value→Bool
  | .bool a,.bool b=>a==b
  | .int k a,.int k' b=>decide (k=k')&&decide (a=b)
  | .slice none n m,.slice none n' m'=>decide (n=n')&&decide (m=m')
  | .pointer none,.pointer none=>true
  | .tuple ⟨[]⟩,.tuple ⟨[]⟩=>true
  |_,_=>false
def bJ(f:AV→AV→Bool):List AV→List AV→Bool
  |[],[]=>true
  |x::xs,y::ys=>f x y&&bJ f xs ys
  |_,_=>false
def bP:Nat→AV→AV→Bool
  |_+1,.v a,.v b=>UB a b
  |d+1,.arr n xs,.arr m ys=>decide (n=m)&&bJ (bP d) xs ys
  |_+1,.own i a b c,.own i' a' b' c'=>decide (i=i')&&decide (a=a')&&decide (b=b')&&decide (c=c')
  |_+1,.ptr i a b,.ptr i' a' b'=>decide (i=i')&&decide (a=a')&&decide (b=b')
  |d+1,.ay xs n,.ay ys m=>decide (n=m)&&bJ (bP d) xs ys
  |d+1,.fn f a b,.fn f' a' b'=>decide (f=f')&&bJ (bP d) a a'&&bJ (bP d) b b'
  |d+1,.agg xs,.agg ys=>bJ (bP d) xs ys
  |d+1,.tuple xs,.tuple ys=>bJ (bP d) xs ys
  |_,_,_=>false
def Uz:ak→ak→Bool
  | .sl a b c d xs,.sl a' b' c' d' ys=>(a==a')&&(b==b')&&decide (c=c')&&decide (d=d')&&bJ (bP 8) xs ys
  | .bx a xs,.bx b ys=>(a==b)&&bJ (bP 8) xs ys
  |_,_=>false
def Ci:Env→Env→Bool
  |[],[]=>true
  |(i,x)::e,(j,y)::e'=>decide (i=j)&&bP 8 x y&&Ci e e'
  |_,_=>false
def Cj:Heap→Heap→Bool
  |[],[]=>true
  |(i,x)::e,(j,y)::e'=>decide (i=j)&&Uz x y&&Cj e e'
  |_,_=>false
def UA(r r':Env×Heap):Bool:=Ci r.1 r'.1&&Cj r.2 r'.2
def ED(P:Program)(s:TypeId)(i:Nat)(id:Id)(off:Nat):ak→Option AV
  | .bx _ _=>(dR P s i).bind λr=>if bD P r.2=0 then none else some (.ptr id (off+r.1) 0)
  |_=>none
def LH(P:Program)(s:TypeId)(i:Nat)(h:Heap):AV→Option AV
  | .ptr id off 0=>(h.get id).bind (ED P s i id off)
  |_=>none
def LM(id:Id)(off:Nat):ak→Option AV
  | .bx _ _=>some (.ptr id off 0)
  |_=>none
def LK(h:Heap):AV→Option AV
  | .ptr id off 0=>(h.get id).bind (LM id off)
  |_=>none
def xh(P:Program)(e:Nat→Option AV)(h:Heap)(o:Op):Option AV:=match o with
  | .nilCheck x=>(aB e x).bind (LK h)
  | .fieldAddr s x i=>(aB e x).bind (LH P s i h)
  |_=>none
def BX:Option AV→Option AV→Option AV
  |some t,_=>some t
  |none,y=>y
def nN(P:Program)(C:bG)(cp:aC)(q:Bool)(g0:Id→Option ak)(e:Nat→Option AV)(h:Heap)(o:Op):Option AV:=
  if q=true then BX (bZ P C cp e g0 o) (xh P e h o)else bZ P C cp e h.get o
def Tz:AV→AV→AV
  | .own id 0 n _,.own _ _ m _=> .own id 0 (n+m) (n+m)
  |_,_=> .v undef
def Tv(e:Nat→Option AV)(o:Op):AV:=
  match o with
  | .call ⟨.builtin .append,⟨[a,b]⟩,_⟩=>match aB e a,aB e b with
    |some x,some y=>Tz x y
    |_,_=> .v undef
  |_=> .v undef
def mY(C:bG)(cp:aC)(lvl:Nat)(g0:Id→Option ak)(all:List Oper)(ps qs:Nat):Nat→Nat→List Oper→Env→Heap→Option (Env×Heap)
  |0,_,_,e,h=>some (e,h)
  |_+1,_,[],_,_=>none
  | k+1,i,o::os,e,h=>if ps.testBit i=true then mY C cp lvl g0 all ps qs k (i+1) os (dX e o.dst (Tv e.get o.op)) h else(nI all e o).bind fun wd=>
    if wd=true then(nN P C cp (qs.testBit i) g0 e.get h o.op).bind λt=>(bC lvl (o.dst.getD 0) 4 t (0,h)).bind λ(y,_,h')=>mY C cp lvl g0 all ps qs k (i+1) os (dX e o.dst y) h'
    else mY C cp lvl g0 all ps qs k (i+1) os (dX e o.dst (.v undef)) h
def BI(lvl:Nat)(g0:Id→Option ak)(n p:Nat)(all:List Oper)(plain:Bool)(t:TypeId)(id:Id)(off x:Nat)(y:AV)(b:ak):Option (Id×ak):=
  match b with
  | .sl true true sz ext cells=>match y with
    | .v (.int k z)=>if plain=true∧(g0 id).isNone=true∧ext=x+1∧bD P t=1∧off+1≤cells.length∧
        (id.1 != lvl || (List.range n).all λj=>((all[j]?).bind (·.dst)) != some id.2.1 || Region.waitsFor .any all.toArray p j)=true then some (id,.sl true true sz ext (putCells cells off [.v (.int k z)]))else none
    |_=>none
  |_=>none
def vH(lvl n p:Nat)(all:List Oper)(id:Id):Bool:=id.1 != lvl || (List.range n).all λj=>((all[j]?).bind (·.dst)) != some id.2.1 || Region.waitsFor .any all.toArray p j
def Ey(id:Id)(k:Nat):Option AV→Bool
  |some (.own id' 0 k1 k2)=>id'==id&&decide (k1=k)&&decide (k2=k)
  |_=>false
def EC(by_ esz:Nat)(ok:Bool)(id:Id)(n ext m ext2 off2:Nat)(y:Option AV):ak→ak→Option (Id×ak)
  | .sl true true sz ext' cells,.sl true _ sz2 e2 cells2=>
    if ok=true∧Ey id (n+m) y=true∧ext'=n∧ext=n∧sz=esz∧e2=ext2∧(cut cells2 off2 m sz2 e2).length=m*esz∧n+m≤2 ^ 47∧(n+m)*by_≤2 ^ 47∧(cut cells2 off2 m sz2 e2).all AV.one=true then
      some (id,.sl true true sz (n+m) (cells++cut cells2 off2 m sz2 e2))else none
  |_,_=>none
def BG(lvl:Nat)(g0:Id→Option ak)(n p:Nat)(all:List Oper)(h:Heap)(by_ esz:Nat)(ok:Bool)(yv:Option AV):AV→AV→Option (Id×ak)
  | .own id 0 k ext,.own id2 off2 m ext2=>(h.get id).bind λb=>(h.get id2).bind λb2=>EC by_ esz (ok&&(g0 id).isNone&&vH lvl n p all id&&vH lvl n p all id2) id k ext m ext2 off2 yv b b2
  |_,_=>none
def LG(lvl:Nat)(g0:Id→Option ak)(n p:Nat)(all:List Oper)(r:Env×Heap)(o:Oper)(a b:Operand)(t t':TypeId):TV→Option (Id×ak)
  | .slice el esz by_=>(dU P el).bind λz=>(aB r.1.get a).bind λx=>(aB r.1.get b).bind λy=>BG lvl g0 n p all r.2 by_ esz (decide (t=t')&&decide (z.length=esz)&&decide (0<esz)&&o.guard.isNone&&o.dst.isSome) ((o.dst).bind r.1.get) x y
  |_=>none
def nT (lvl:Nat)(g0:Id→Option ak)(n p:Nat)(all:List Oper)(r:Env×Heap)(o:Oper):Option (Id×ak):=
  match o.op with
  | .store t a x=>(aB r.1.get a).bind fun q=>(aB r.1.get x).bind fun y=>match q with
    | .ptr id off 0=>(r.2.get id).bind fun b=>match b with
      | .bx true cells=>if o.dst.isNone=true∧o.guard.isNone=true∧(g0 id).isNone=true∧y.cells.length=bD P t∧0<bD P t∧off+y.cells.length≤cells.length∧y.cells.all AV.one=true∧
          (id.1 != lvl || (List.range n).all λj=>((all[j]?).bind (·.dst)) != some id.2.1 || Region.waitsFor .any all.toArray p j)=true then some (id,.bx true (putCells cells off y.cells))else none
      |_=>none
    | .ptr id off (xt+1)=>(r.2.get id).bind (BI P lvl g0 n p all (o.dst.isNone&&o.guard.isNone) t id off xt y)
    |_=>none
  | .call ⟨.builtin .append,⟨[a,b]⟩,ts⟩=>(ts[0]?).bind λt=>(ts[1]?).bind λt'=>(aX P t).bind (LG P lvl g0 n p all r o a b t t')
  |_=>none
def o5(lvl:Nat)(g0:Id→Option ak)(n:Nat)(all:List Oper)(ps:Nat):Nat→Nat→Env×Heap→Option Heap
  |0,_,r=>some r.2
  |k+1,i,r=>if ps.testBit i=true then(all[i]?).bind λo=>(nT P lvl g0 n i all r o).bind λs=>o5 lvl g0 n all ps k (i+1) (r.1,r.2.set s.1 s.2)else o5 lvl g0 n all ps k (i+1) r
def tN(C:bG)(cp:aC)(ci:bz)(lvl:Nat)(g0:Id→Option ak)(all:List Oper)(n ps qs:Nat)(e:Env)(h:Heap):Option (Env×Heap):=
  (mY P C cp lvl g0 all ps qs n 0 all e h).bind λr=>(o5 P lvl g0 n all ps n 0 r).bind λh'=>ji P C cp ci lvl all (all.drop n) r.1 h'
def rC(k:Nat):Nat:=(k - 2000000) / 1461501637330902918203684832716283019655932542976%1208925819614629174706176
def PP:ak→Option ak
  | .bx rw cells=>some (.bx rw cells)
  |_=>none
def uS(h:Heap)(id:Id):Option ak:=(h.get id).bind PP
def zn(k:Nat)(h:Heap):Id→Option ak:=if(k - 2000000) / 1461501637330902918203684832716283019655932542976 / 1208925819614629174706176=0 then fun _=>none
  else if(k - 2000000) / 1461501637330902918203684832716283019655932542976 / 1208925819614629174706176=1 then h.get else uS h
def vF(k:Nat):Nat:=(k - 2000000) / 1208925819614629174706176%1208925819614629174706176
def vG(k:Nat):Nat:=(k - 2000000)%1208925819614629174706176
def flat:AV→Bool
  | .v _=>true
  | .arr _ _=>true
  | .own _ _ _ _=>true
  | .ptr _ _ _=>true
  | .ay _ _=>true
  | .fn _ _ _=>true
  |_=>false
def J3(C:bG)(cp:aC)(ci:bz)(lvl:Nat)(all:List Oper)(n d:Nat)(y:AV)(r:Env×Heap)(o:Oper):Option (Env×Heap):=
  if flat y=true then(dw P C cp ci lvl (r.1.drop [d]) r.2 o.dst o.op).bind λ(z,h2)=>ji P C cp ci lvl all (all.drop (n+1)) ((dX (r.1.drop [d]) o.dst z).set d y) h2 else none
def Rz(C:bG)(cp:aC)(ci:bz)(lvl:Nat)(all:List Oper)(n:Nat)(r:Env×Heap)(o2:Oper):Op→Option Tmp→Option (Env×Heap)
  | .move (.tmp a),some d=>(r.1.get a).bind λy=>J3 P C cp ci lvl all n d y r o2
  |_,_=>none
def Aq(C:bG)(cp:aC)(ci:bz)(lvl:Nat)(all:List Oper)(n f:Nat)(e:Env)(h:Heap):Option (Env×Heap):=
  (kK P C cp ci lvl all n (all.take n) e h).bind λr=>(all[f]?).bind λo=>(all[n]?).bind λo2=>Rz P C cp ci lvl all n r o2 o.op o.dst
def qm(C:bG)(cp:aC)(ci:bz)(lvl:Nat)(all:List Oper)(k:Nat)(e:Env)(h:Heap):Option (Env×Heap):=
  if k<1000 then kK P C cp ci lvl all k all e h
  else if k<1000000 then Aq P C cp ci lvl all (k%1000) (k / 1000 - 1) e h
  else if k<2000000 then(kK P C cp ci lvl all (k - 1000000) (all.take (k - 1000000)) e h).bind fun r=>
    (ji P C cp ci lvl all (all.drop (k - 1000000)) r.1 r.2).bind λr1=>(ji P C cp ci lvl all (all.drop (k - 1000000)).reverse r.1 r.2).bind λr2=>if UA r1 r2=true then some r1 else none
  else tN P C cp ci lvl (zn k h) all (rC k) (vF k) (vG k) e h
inductive Ex where
  |normal
  |exit (id:Nat)
  |ret
def names(id:Id):Nat→AV→Bool
  |_,.own j _ _ _=>j==id
  |_,.ptr j _ _=>j==id
  |d+1,.agg xs=>xs.any (names id d)
  |d+1,.tuple xs=>xs.any (names id d)
  |d+1,.fn _ a b=>a.any (names id d) || b.any (names id d)
  |_,.v _=>false
  |_,.arr _ _=>false
  |_,.ay _ _=>false
  |_,.fn _ [] []=>false
  |_,_=>true
def qF(id:Id):ak→Bool
  | .sl true _ _ _ _=>false
  | .sl false _ _ _ cells=>cells.any (names id 4)
  | .bx _ cells=>cells.any (names id 4)
def ni(id:Id):Env→Bool
  |[]=>false
  |(_,x)::e=>names id 4 x || ni id e
def pY(id:Id):Heap→Bool
  |[]=>false
  |(_,b)::h=>qF id b || pY id h
def mP:List Id→Id→Bool
  |[],_=>false
  |j::l,k=>if j=k then true else mP l k
def sS(prot:List Id)(e:Env)(all:Heap):Heap→Heap
  |[]=>[]
  |(id,b)::h=>if(mP prot id || (ni id e || pY id all))=true then(id,b)::sS prot e all h else sS prot e all h
def qJ(prot:List Id)(e:Env)(h:Heap):Heap:=sS prot e h h
def sweep(prot:List Id)(e:Env)(h:Heap):Heap:=qJ prot e (qJ prot e h)
def keys:Heap→List Id
  |[]=>[]
  |(id,_)::h=>id::keys h
def tK(prot:List Id)(body:Env→Heap→Option (Ex×Env×Heap)):Nat→Env→Heap→Option (Ex×Env×Heap)
  |0,_,_=>none
  | n+1,e,h=>(body e (sweep prot e h)).bind fun(x,e',h')=>match x with
    | .normal=>tK prot body n e' h'
    |x=>some (x,e',h')
def Ff(prot:List Id)(k:Nat)(e:Env)(h:Heap)(id:Id)(n ext:Nat):ak→Option (Env×Heap)
  | .sl true true sz e2 cells=>if e2=ext/\n<=ext/\mP prot id=false/\ni id (e.drop [k])=false/\pY id h=false then some (e.set k (.own id 0 n n),h.set id (.sl true true sz n (cells.take (n*sz))))else none
  |_=>none
def Fg(prot:List Id)(k:Nat)(e:Env)(h:Heap):AV→Option (Env×Heap)
  | .own id 0 n ext=>(h.get id).bind (Ff prot k e h id n ext)
  | .v (.slice none 0 0)=>some (e,h)
  |_=>none
def shrink(prot:List Id)(k:Nat)(e:Env)(h:Heap):Option (Env×Heap):=(e.get k).bind (Fg prot k e h)
def ada(c:Nat)(h:Heap)(id:Id)(cells:List AV)(off n ext:Nat):ak→Option Heap
  | .sl true false sz e cs=>if e=ext then some (h.set id (.bx true (cells.set c (.arr n (cut cs off n sz e)))))else none
  |_=>none
def BV(lvl k sz c:Nat)(h:Heap)(id:Id)(cells:List AV):AV→Option Heap
  | .v (.slice none 0 0)=>if sz=0 then some (h.set id (.bx true (cells.set c (.arr 0 []))))else(h.new (lvl,k,78+c) (if 500<sz then .sl false true (sz - 500) 0 []else .sl true true sz 0 [])).bind λh1=>some (h1.set id (.bx true (cells.set c (.own (lvl,k,78+c) 0 0 0))))
  | .own j off n ext=>(h.get j).bind (ada c h id cells off n ext)
  |_=>none
def Md(lvl k sz c:Nat)(h:Heap)(id:Id):ak→Option Heap
  | .bx true cells=>(cells[c]?).bind (BV lvl k sz c h id cells)
  |_=>none
def Me(lvl k sz c:Nat)(h:Heap):AV→Option Heap
  | .ptr id 0 0=>(h.get id).bind (Md lvl k sz c h id)
  |_=>none
def BU(lvl k sz c:Nat)(e:Env)(h:Heap):Option Heap:=(e.get k).bind (Me lvl k sz c h)
def post(lvl:Nat)(prot:List Id):List Nat→Env→Heap→Option (Env×Heap)
  |[],e,h=>some (e,h)
  | k ::ks,e,h=>
    if k<1000000 then post lvl prot ks e h
    else if k<1000000000 then
      match e.get (k%1000000)with
      |some (.v (.slice none 0 0))=>(h.new (lvl,k%1000000,77) (.sl true true (k / 1000000) 0 [])).bind λh'=>post lvl prot ks (e.set (k%1000000) (.own (lvl,k%1000000,77) 0 0 0)) h'
      |some _=>post lvl prot ks e h
      |none=>none
    else if 4000000000<=k then(BU lvl (k%1000000) (k / 1000000%1000) (k / 1000000000 - 4) e h).bind λh'=>post lvl prot ks e h'
    else if 3000000000<=k then(shrink prot (k%1000000) e h).bind λr=>post lvl prot ks r.1 r.2
    else if 2000000000<=k then post lvl prot ks e (sweep prot e h)
    else
      (e.get (k%1000000)).bind λx=>(aG h.get 4 x).bind λy=>post lvl prot ks (e.set (k%1000000) y) (dV h (aW h.get 4 x))
def sweepX(prot:List Id):Ex×Env×Heap→Option (Ex×Env×Heap)
  |(.normal,e,h)=>some (.normal,e,sweep prot e h)
  |x=>some x
def qy(D:List (Nat×List Nat)):Operand→Env→Env
  | .tmp t,e=>if(D.getD (2*t+1) (0,[])).1=0 then e.drop [t]else e
  |_,e=>e
def Nj(e:Env):List Tmp→List AV→Env
  |p::ps,x::xs=>Nj (e.set p x) ps xs
  |_,_=>e
def adI:AV→Option (List AV)
  | .tuple xs=>some xs
  |_=>none
def adb:AV→Option (List AV)
  | .newbx xs=>some xs
  |_=>none
def DK(prot:List Id)(asg body:Env→Heap→Option (Ex×Env×Heap))(e0:Env)(ps:List Tmp):List AV→Heap→Option Heap
  |[],h=>some h
  | y ::ys,h=>(adI y).bind fun xs=>if xs.length=ps.length then(asg (Nj e0 ps xs) h).bind fun(x,e1,h1)=>match x with
      | .normal=>(body e1 h1).bind fun(x2,_,h2)=>match x2 with
        | .normal=>DK prot asg body e0 ps ys (sweep prot e0 h2)
        |_=>none
      |_=>none
    else none
def nD(h:Heap)(cap:List AV):Heap:=dV h ((cap.map (aW h.get 4)).flatten)
def exec(C:bG)(cp:aC)(ci:bz)(lvl:Nat)(prot:List Id)(D:List (Nat×List Nat))(n:Nat):Code→Env→Heap→Option (Ex×Env×Heap)
  | .skip,e,h=>some (.normal,e,h)
  | .label _,e,h=>some (.normal,e,h)
  | .region id ⟨ops⟩ false,e,h=>(ji P C cp ci lvl ops ops e h).bind λ(e',h')=>(post lvl prot (D.getD (2*id) (0,[])).2 (e'.drop (D.getD (2*id) (0,[])).2) h').bind λ(e',h')=>some (.normal,e',h')
  | .region id ⟨ops⟩ true,e,h=>(qm P C cp ci lvl ops (D.getD (2*id) (0,[])).1 e h).bind λ(e',h')=>(post lvl prot (D.getD (2*id) (0,[])).2 (e'.drop (D.getD (2*id) (0,[])).2) h').bind λ(e',h')=>some (.normal,e',h')
  | .seq a b,e,h=>(exec C cp ci lvl prot D n a e h).bind fun(x,e',h')=>match x with
    | .normal=>exec C cp ci lvl prot D n b e' h'
    |x=>some (x,e',h')
  | .cond c a b,e,h=>(aB e.get c).bind fun y=>match y with
    | .v (.bool t)=>if t=true then(exec C cp ci lvl prot D n a (qy D c e) h).bind (sweepX prot)else(exec C cp ci lvl prot D n b (qy D c e) h).bind (sweepX prot)
    |_=>none
  | .block id c,e,h=>(exec C cp ci lvl prot D n c e h).bind fun(x,e',h')=>match x with
    | .exit j=>if j=id then(post lvl prot (D.getD (2*id+1) (0,[])).2 (e'.drop (D.getD (2*id+1) (0,[])).2) h').bind λ(e',h')=>some (.normal,e',h')else some (.exit j,e',h')
    | .normal=>(post lvl prot (D.getD (2*id+1) (0,[])).2 (e'.drop (D.getD (2*id+1) (0,[])).2) h').bind λ(e',h')=>some (.normal,e',h')
    | .ret=>some (.ret,e',h')
  | .loop c,e,h=>tK prot (exec C cp ci lvl prot D n c) n e h
  | .scope c,e,h=>exec C cp ci lvl prot D n c e h
  | .exit id,e,h=>some (.exit id,e,h)
  | .ret,e,h=>some (.ret,e,h)
  | .rangeFunc g ⟨ps⟩ asg body,e,h=>(aB e.get g).bind fun gv=>(qX gv).bind fun(k,first,cap)=>(aZ (aG h.get 4) cap).bind fun xs=>
      if first.isEmpty=true then(ci 0 k xs (nD h cap)).bind fun(r,_)=>(adb r).bind fun ys=>
        (DK (keys (nD h cap)) (exec C cp ci lvl (keys (nD h cap)) D n asg) (exec C cp ci lvl (keys (nD h cap)) D n body) e ps ys (nD h cap)).bind λh'=>some (.normal,e,h')else none
  |_,_,_=>none
def bW:Nat→List AV→Env
  |_,[]=>[]
  |k,x::xs=>(k,x)::bW (k+1) xs
def mf(e:Env)(h:Heap):ResultVar→Option AV
  | .tmp t=>e.get t
  | .cell t ty=>(e.get t).bind λp=>pz P h.get ty p
structure aU where
  code:Code
  results:List ResultVar
  types:List TypeId
def one(rs:List AV):AV:=
  match rs with
  |[r]=>r
  |rs=> .tuple rs
def rU:List TypeId→List AV→List AV
  |t::ts,x::xs=>typed P t x::rU ts xs
  |_,xs=>xs
def bI(C:bG)(cp:aC)(ci:bz)(n:Nat)(D:List (Nat×List Nat))(i:aU)(args:List AV):Option AV:=
  (exec P C cp ci 0 [] D n i.code (bW 0 args) []).bind fun(x,e,h)=>match x with
    | .exit _=>none
    |_=>(aZ (mf P e h) i.results).bind λrs=>(fE (fQ (dV h ((rs.map (kZ h.get 4)).flatten)).get 4) rs []).bind λ(ys,_)=>some (one (rU P i.types ys))
def G5(C:bG)(cp:aC)(ci:bz)(n:Nat)(D:List (Nat×List Nat))(i:aU)(lvl:Nat)(args:List AV)(h:Heap):Option (AV×Heap):=
  (exec P C cp ci lvl (keys h) D n i.code (bW 0 args) h).bind fun(x,e,h')=>match x with
    | .exit _=>none
    |_=>(aZ (mf P e h') i.results).bind λrs=>some (one rs,sweep (keys h) [(0,one rs)] h')
end
end Go.Av
