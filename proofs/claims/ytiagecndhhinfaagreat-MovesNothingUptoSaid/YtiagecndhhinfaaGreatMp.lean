/- More equations; all of them in one. Conditions: those that each names. -/
import Derived.Test.YtiagecndhhinfaaGreatMq
set_option linter.unusedVariables false
set_option linter.defProp false
namespace Go.Av
section
variable {P:Program} {C:bG} {cp:aC} {ci:bz} {lvl n:Nat} {e:Env} {h:Heap} {g:Id->Option ak} {α:Type} {f:α->AV} {c:α->List AV} {l:List α}
theorem av6{x y:α}:(some x).getD y=x:=rfl
theorem av5{y:α}:(none:Option α).getD y=y:=rfl
theorem ahC:(!true)=false:=rfl
theorem ahB:(!false)=true:=rfl
def NQ(want:Bool):AV→Option Bool
  | .v (.bool b)=>some (b==want)
  | .v _=>some false
  |_=>none
def U3(want:Bool)(e:Nat→Option AV):Option Tmp→Option Bool
  |some d=>(e d).bind (NQ want)
  |none=>some false
theorem aAI{all:List Oper}{e:Nat→Option AV}{d op ty pos after j want}:o7 all e ⟨d,op,ty,pos,after,some (j,want)⟩=U3 want e ((all[j]?).bind (·.dst)):=by
  rw[aAJ]
  cases (all[j]?).bind (·.dst)with
  |none=>rfl
  | some d=>
    simp only[U3]
    congr 1
theorem aAT{want:Bool}{e:Nat->Option AV}{d:Tmp}:U3 want e (some d)=(e d).bind (NQ want):=rfl
theorem aAU{want b:Bool}:NQ want (.v (.bool b))=some (b==want):=rfl
theorem aAV{want:Bool}:NQ want (.v undef)=some false:=rfl
theorem amC{d k x}:aG g d (.v (.int k x))=some (.v (.int k x)):=by cases d <;> rfl
theorem amz{d x}:aG g d (.v (.bool x))=some (.v (.bool x)):=by cases d <;> rfl
theorem amG{d x}:aG g d (.v (.string x))=some (.v (.string x)):=by cases d <;> rfl
theorem amD{d cc}:aG g d (.v (.slice none 0 cc))=some (.arr 0 []):=by cases d <;> rfl
theorem amy{d m xs}:aG g d (.arr m xs)=some (.arr m xs):=by cases d <;> rfl
theorem Rq{d o xs}:aG g d (.ay xs o)=some (.ay xs o):=by cases d <;> rfl
theorem amB{d k}:aG g d (.fn k [] [])=some (.fn k [] []):=by cases d <;> rfl
theorem zo{F:AV→Option AV}: ∀ {xs:List AV},xs.mapM F=aZ F xs
  |[]=>rfl
  | x::xs=>by
    rw[List.mapM_cons,zo]
    rfl
def D9(g:Id→Option ak)(d off m ext:Nat):ak→Option AV
  | .sl true _ sz e cells=>if e=ext then some (.arr m (cut cells off m sz e))else none
  | .sl false _ sz e cells=>match d with
    |0=>none
    |d+1=>if e=ext then(aZ (aG g d) cells).bind λcs=>some (.arr m (cut cs off m sz e))else none
  |_=>none
theorem amE{d:Nat}{id:Id}{off m ext:Nat}:aG g d (.own id off m ext)=(g id).bind (D9 g d off m ext):=by
  cases d with
  | zero=>
    simp only[aG]
    cases g id with
    |none=>rfl
    | some b=>cases b with
      |bx=>rfl
      |sl cl=>cases cl <;> rfl
  | succ d=>
    simp only[aG,zo]
    cases g id with
    |none=>rfl
    | some b=>cases b with
      |bx=>rfl
      |sl cl=>cases cl <;> rfl
theorem amI{d off m ext r sz cells}:D9 g d off m ext (.sl true r sz ext cells)=some (.arr m (cut cells off m sz ext)):=by simp[D9]
theorem amJ{d off m ext r sz cells}:D9 g (d+1) off m ext (.sl false r sz ext cells)=(aZ (aG g d) cells).bind λcs=>some (.arr m (cut cs off m sz ext)):=by simp[D9]
def ZT(g:Id→Option ak)(d off ext:Nat):ak→Option AV
  | .bx _ cells=>if ext=0 then(aZ (aG g d) cells).bind λxs=>some (.ay xs off)else none
  |_=>none
theorem amF{d:Nat}{id:Id}{off ext:Nat}:aG g (d+1) (.ptr id off ext)=(g id).bind (ZT g d off ext):=by
  simp only[aG,zo]
  cases g id with
  |none=>rfl
  |some b=>cases b <;> rfl
theorem amK{d off r cells}:ZT g d off 0 (.bx r cells)=(aZ (aG g d) cells).bind λxs=>some (.ay xs off):=rfl
theorem amx{d:Nat}{xs:List AV}:aG g (d+1) (.agg xs)=(aZ (aG g d) xs).bind fun ys=>some (.agg ys):=by
  simp only[aG,zo]
theorem amA{d:Nat}{k:FuncId}{a b:List AV}:aG g (d+1) (.fn k a b)=(aZ (aG g d) a).bind fun a'=>(aZ (aG g d) b).bind fun b'=>some (.fn k a' b'):=by
  cases a <;> cases b <;> simp[aG,zo,aZ]
theorem Yh{cells:List AV}{m sz ext:Nat}(h:m=ext):cut cells 0 m sz ext=cells:=by simp[cut,h]
theorem ah4{d x}:aW g d (.v x)=[]:=by cases d <;> rfl
theorem ahY{d m xs}:aW g d (.arr m xs)=[]:=by cases d <;> rfl
theorem PN{d o xs}:aW g d (.ay xs o)=[]:=by cases d <;> rfl
theorem ah0{d k}:aW g d (.fn k [] [])=[]:=by cases d <;> rfl
def GZ(g:Id→Option ak)(d:Nat):Option ak→List Id
  |some (.sl false _ _ _ cells)=>(cells.map (aW g d)).flatten
  |_=>[]
theorem ah1{d:Nat}{id:Id}{off m ext:Nat}:aW g (d+1) (.own id off m ext)=id::GZ g d (g id):=by
  have: ∀ b,g id=b→aW g (d+1) (.own id off m ext)=id::GZ g d b:=fun b hb=>by
    unfold aW
    rw[hb]
    rfl
  exact this _ rfl
theorem ah2{id:Id}{off m ext:Nat}:aW g 0 (.own id off m ext)=[id]:=rfl
theorem ahT{d r sz ext cells}:GZ g d (some (.sl true r sz ext cells))=[]:=rfl
theorem ahU{d r sz ext cells}:GZ g d (some (.sl false r sz ext cells))=(cells.map (aW g d)).flatten:=rfl
def PM(g:Id→Option ak)(d:Nat):Option ak→List Id
  |some (.bx _ cells)=>(cells.map (aW g d)).flatten
  |_=>[]
theorem ah3{d:Nat}{id:Id}{off ext:Nat}:aW g (d+1) (.ptr id off ext)=id::PM g d (g id):=by
  have: ∀ b,g id=b→aW g (d+1) (.ptr id off ext)=id::PM g d b:=fun b hb=>by
    unfold aW
    rw[hb]
    rfl
  exact this _ rfl
theorem ahV{d r cells}:PM g d (some (.bx r cells))=(cells.map (aW g d)).flatten:=rfl
theorem ahX{d:Nat}{xs:List AV}:aW g (d+1) (.agg xs)=(xs.map (aW g d)).flatten:=rfl
theorem ahZ{d:Nat}{k:FuncId}{a b:List AV}:aW g (d+1) (.fn k a b)=(a.map (aW g d)).flatten++(b.map (aW g d)).flatten:=rfl
theorem aiZ{d:Nat}{r:AV}{fl:List Id}:uV lvl d h (some (r,fl))=qo lvl d (dV h fl) (some r):=rfl
theorem O6{d x}:alias d (.v x)=false:=by cases d <;> rfl
theorem aeX{d m xs}:alias d (.arr m xs)=true:=by cases d <;> rfl
theorem aeW{d xs}:alias (d+1) (.agg xs)=xs.any (alias d):=rfl
theorem ae1{d xs}:alias (d+1) (.tuple xs)=xs.any (alias d):=rfl
theorem aeZ{d sz m xs}:alias (d+1) (.fresh sz m xs)=xs.any (alias d):=rfl
theorem ae0{d:Nat}{k:IntKind}{l:List Int}:(lm (ik k) l).any (alias d)=false:=by
  simp only[List.any_eq_false,lm,List.mem_map]
  rintro x ⟨y,_,rfl⟩
  simp[ik,O6]
theorem aeY{d:Nat}{l:List Bool}:(lm bk l).any (alias d)=false:=by
  simp only[List.any_eq_false,lm,List.mem_map]
  rintro x ⟨y,_,rfl⟩
  simp[bk,O6]
def iW{α:Type}(l:List α)(a b:Nat):List α:=(l.drop a).take (b - a)
theorem azy{a b:Nat}(h:b≤l.length):(iW l a b).length=b - a:=by
  simp only[iW,List.length_take,List.length_drop];omega
def Np(sz n:Nat)(xs:List AV)(l r:Nat):Option AV:=if l<=r/\r<=n then some (.arr (r - l) (if l=0/\r=n then xs else(xs.drop (l*sz)).take ((r - l)*sz)))else none
theorem ahk{t el:TypeId}{sz by_ m:Nat}{xs:List AV}{lo hi:Option AV}(htv:aX P t=some (.slice el sz by_)):
    lg P t g (.arr m xs) lo hi=(iP lo 0).bind λl=>(iP hi m).bind λr=>Np sz m xs l r:=by
  simp only[lg,htv,ai];rfl
theorem ayV{l:List α}{a b:Nat}(h1:a≤b)(h2:b≤l.length):Np 1 l.length (lm f l) a b=some (.arr (iW l a b).length (lm f (iW l a b))):=by
  simp only[Np]
  rw[if_pos ⟨h1,h2⟩,azy h2]
  by_cases hh:a=0/\b=l.length
  · obtain⟨rfl,rfl⟩:=hh
    rw[if_pos ⟨rfl,rfl⟩]
    simp[iW]
  · rw[if_neg hh]
    simp[iW,lm,List.map_take,List.map_drop]
theorem ay2{d:Nat}:iP none d=some d:=rfl
theorem ay1{k:IntKind}{x:Int}{d:Nat}(h:0<=x):iP (some (.v (.int k x))) d=some x.toNat:=by simp[iP,h]
theorem av8{α β:Type}{F:α->Option β}:qf F none=some none:=rfl
theorem av9{α β:Type}{F:α->Option β}{x:α}:qf F (some x)=(F x).bind λy=>some (some y):=rfl
def Nq(id:Id)(off ext sz l r:Nat):ak→Option AV
  | .sl _ _ sz' ext' _=>if sz'=sz/\ext'=ext/\l<=r/\off+r*sz<=ext*sz/\0<sz then some (.own id (off+l*sz) (r - l) ext)else none
  |_=>none
theorem ahl{t el:TypeId}{sz by_ off m ext:Nat}{id:Id}{lo hi:Option AV}(htv:aX P t=some (.slice el sz by_)):
    lg P t g (.own id off m ext) lo hi=(g id).bind λb=>(iP lo 0).bind λl=>(iP hi m).bind λr=>Nq id off ext sz l r b:=by
  simp only[lg,htv,ai]
  cases g id with
  |none=>rfl
  | some b=>
    cases b with
    | bx=>
      simp only[ai]
      cases iP lo 0 with
      |none=>rfl
      | some a=>
        simp only[ai]
        cases iP hi m <;> rfl
    |sl=>rfl
theorem ayX{id:Id}{off ext sz l r:Nat}{cl rw cells}(h1:l≤r)(h2:off+r*sz≤ext*sz)(h3:0<sz):Nq id off ext sz l r (.sl cl rw sz ext cells)=some (.own id (off+l*sz) (r - l) ext):=by
  simp[Nq,h1,h2,h3]
def Vt(place:Nat→Option (Nat×Nat))(cells:List AV)(x:AV)(rest:List (Nat×AV))(r:Nat×Nat):Option (List AV):=
  if x.cells.length=r.2/\r.1+r.2<=cells.length/\x.cells.all AV.one=true then mD place (putCells cells r.1 x.cells) rest else none
theorem aeK{place:Nat->Option (Nat×Nat)}{cells:List AV}:mD place cells []=some cells:=rfl
theorem aeJ{place:Nat->Option (Nat×Nat)}{cells:List AV}{i:Nat}{x:AV}{rest:List (Nat×AV)}:mD place cells ((i,x)::rest)=(place i).bind (Vt place cells x rest):=rfl
theorem aeI{place:Nat→Option (Nat×Nat)}{cells:List AV}{x:AV}{rest:List (Nat×AV)}{o s:Nat}:
  Vt place cells x rest (o,s)=if x.cells.length=s/\o+s<=cells.length/\x.cells.all AV.one=true then mD place (putCells cells o x.cells) rest else none:=rfl
def jv(P:Program)(t i:Nat):Option (Nat×Nat):=(dR P t i).map λr=>(r.1,bD P r.2)
def Rl(sz i:Nat):Option (Nat×Nat):=some (i*sz,sz)
theorem amh{sz i:Nat}:Rl sz i=some (i*sz,sz):=rfl
theorem ahS{t:TypeId}{z:List AV}{parts:List (Nat×AV)}(hz:dU P t=some z)(ht:aX P t=some .struct):wB P t parts=(mD (jv P t) z parts).bind fun xs=>some (.agg xs):=by
  simp only[wB,hz,ht,ai];rfl
def PO(sz len:Nat)(xs:List AV):Option AV:=some (if xs.all AV.isC=true then .fresh sz len xs else .freshO sz len xs)
theorem aio{sz len:Nat}{xs:List AV}:PO sz len xs=some (if xs.all AV.isC=true then .fresh sz len xs else .freshO sz len xs):=rfl
theorem aip{t el:TypeId}{sz by_ len:Nat}{z:List AV}{parts:List (Nat×AV)}(ht:aX P t=some (.slice el sz by_))(hz:dU P el=some z)(h1:len*sz≤16777216)(h2:z.length=sz)(h3:0<sz):
    uO P t len parts=(mD (Rl sz) (List.replicate len z).flatten parts).bind (PO sz len):=by
  simp only[uO,hz,ht,ai]
  rw[if_pos ⟨by omega,h2,h3⟩]
  rfl
theorem asi{k x}:AV.isC (.v (.int k x))=true:=rfl
theorem ar9{x}:AV.isC (.v (.bool x))=true:=rfl
theorem ash{x}:AV.isC (.v (.string x))=true:=rfl
theorem asb{a b c}:AV.isC (.v (.slice a b c))=false:=rfl
theorem ar8{m xs}:AV.isC (.arr m xs)=true:=rfl
theorem asf{o xs}:AV.isC (.ay xs o)=true:=rfl
theorem asc{id o m x}:AV.isC (.own id o m x)=false:=rfl
theorem ase{id o x}:AV.isC (.ptr id o x)=false:=rfl
theorem asa{k a b}:AV.isC (.fn k a b)=false:=rfl
theorem aby{k x}:AV.one (.v (.int k x))=true:=rfl
theorem abv{x}:AV.one (.v (.bool x))=true:=rfl
theorem abD{x}:AV.one (.v (.string x))=true:=rfl
theorem abC{a m x}:AV.one (.v (.slice a m x))=true:=rfl
theorem abq{m xs}:AV.one (.arr m xs)=true:=rfl
theorem abz{id o m x}:AV.one (.own id o m x)=true:=rfl
theorem abA{id o x}:AV.one (.ptr id o x)=true:=rfl
theorem abB{o xs}:AV.one (.ay xs o)=true:=rfl
theorem abw{k a b}:AV.one (.fn k a b)=true:=rfl
theorem akx{k x}:AV.cells (.v (.int k x))=[.v (.int k x)]:=rfl
theorem akv{x}:AV.cells (.v (.bool x))=[.v (.bool x)]:=rfl
theorem akC{x}:AV.cells (.v (.string x))=[.v (.string x)]:=rfl
theorem akB{a m x}:AV.cells (.v (.slice a m x))=[.v (.slice a m x)]:=rfl
theorem av3{e:Nat->Option AV}{x}:aB e (.const (.string x))=some (.v (.string x)):=rfl
def xw(y:AV)(ext:Nat)(b:ak):Option AV:=if b.ext==ext then some y else none
def LY(g:Id→Option ak)(y:AV):Option AV:=match y with
    | .ptr id _ ext=>(g id).bind (xw y ext)
    | .ay _ _=>some y
    | .fn _ _ _=>some y
    |_=>none
theorem afZ{d:Option Tmp}{x:Operand}:dw P C cp ci lvl e h d (.nilCheck x)=qo lvl (d.getD 0) h ((aB e.get x).bind (LY h.get)):=by
  rw[af0]
  congr 2
  funext y
  cases y <;> try rfl
  rename_i id off ext
  have: ∀ b,h.get id=b→(if live h.get id ext=true then some (AV.ptr id off ext)else none)=b.bind (xw (.ptr id off ext) ext):=fun b hb=>by
    unfold live
    rw[hb]
    cases b <;> rfl
  exact this _ rfl
theorem auM{id:Id}{off ext:Nat}:LY g (.ptr id off ext)=(g id).bind (xw (.ptr id off ext) ext):=rfl
theorem auN{xs off}:LY g (.ay xs off)=some (.ay xs off):=rfl
theorem auL{y:AV}{cl rw sz ext cells}:xw y ext (.sl cl rw sz ext cells)=some y:=by simp[xw,ak.ext]
theorem auK{y:AV}{rw cells}:xw y 0 (.bx rw cells)=some y:=by simp[xw,ak.ext]
theorem aer{op:BinOp}{t:TypeId}{a b:Bool}(ht:aX P t=some .bool):pq P op t (.v (.bool a)) (.v (.bool b))=Aj op a b:=by simp[pq,ht]
def uh(P:Program)(src dst:TypeId)(a:AV):Option AV:=(aX P src).bind fun _=>(aX P dst).bind fun tv=>(mF a).bind fun n=>match tv with
      | .int k=>some (.v (.int k (k.wrap n)))
      |_=>none
theorem afI{d:Option Tmp}{src dst:TypeId}{x:Operand}:dw P C cp ci lvl e h d (.convert src dst x)=qo lvl (d.getD 0) h ((aB e.get x).bind (uh P src dst)):=kw (λ_ _ _ h=>by cases h) rfl
theorem A8{src dst:TypeId}{k k':IntKind}{v:TV}{z:Int}(h1:aX P src=some v)(h2:aX P dst=some (.int k)):uh P src dst (.v (.int k' z))=some (.v (.int k (wk k z))):=by
  simp[uh,h1,h2,mF,wk]
def wV(P:Program)(t i:Nat)(a:AV):Option AV:=(dR P t i).bind fun r=>match a with
    | .agg xs=>part P xs r.2 r.1
    |_=>none
theorem afL{d:Option Tmp}{t i:Nat}{x:Operand}:dw P C cp ci lvl e h d (.field t x i)=qo lvl (d.getD 0) h ((aB e.get x).bind (wV P t i)):=afM
theorem JZ{t i o:Nat}{ft:TypeId}{xs:List AV}(hf:dR P t i=some (o,ft)):wV P t i (.agg xs)=part P xs ft o:=by simp[wV,hf]
end
section
variable {P:Program} {C:bG} {cp:aC} {ci:bz} {lvl n:Nat} {e:Env} {h:Heap} {all:Heap} {g:Id->Option ak} {prot:List Id}
theorem amw{k:Nat}{y:AV}:Env.set [] k y=[(k,y)]:=rfl
theorem amv{j k:Nat}{x y:AV}:Env.set ((j,x)::e) k y=if j=k then(j,y)::e else if k<j then(k,y)::(j,x)::e else(j,x)::Env.set e k y:=rfl
theorem ame{ds:List Nat}:Env.drop ds []=[]:=rfl
theorem amd{ds:List Nat}{j:Nat}{x:AV}:Env.drop ds ((j,x)::e)=if jJ ds j=true then Env.drop ds e else(j,x)::Env.drop ds e:=rfl
theorem auw{k:Nat}:jJ [] k=false:=rfl
theorem auv{l:List Nat}{j k:Nat}:jJ (j::l) k=if j=k then true else jJ l k:=rfl
theorem aqw{k:Id}{y:ak}:Heap.set [] k y=[(k,y)]:=rfl
theorem aqv{j k:Id}{x y:ak}:Heap.set ((j,x)::h) k y=if j=k then(j,y)::h else(j,x)::Heap.set h k y:=rfl
def hnB(h:Heap)(k:Id)(y:ak):Option ak→Option Heap
  |none=>some (Heap.set h k y)
  |some _=>none
theorem aqt{k:Id}{y:ak}:Heap.new h k y=hnB h k y (h.get k):=by
  unfold Heap.new
  cases h.get k <;> rfl
theorem aqs{k:Id}{y:ak}:hnB h k y none=some (Heap.set h k y):=rfl
theorem azB:sweep prot e h=qJ prot e (qJ prot e h):=rfl
theorem azA:qJ prot e h=sS prot e h h:=rfl
theorem azD:sS prot e all []=[]:=rfl
theorem azC{id:Id}{b:ak}:sS prot e all ((id,b)::h)=if(mP prot id || (ni id e || pY id all))=true then(id,b)::sS prot e all h else sS prot e all h:=rfl
theorem aul{k:Id}:mP [] k=false:=rfl
theorem auk{l:List Id}{j k:Id}:mP (j::l) k=if j=k then true else mP l k:=rfl
theorem auP{id:Id}:ni id []=false:=rfl
theorem auO{id:Id}{j:Nat}{x:AV}:ni id ((j,x)::e)=(names id 4 x || ni id e):=rfl
theorem au0{id:Id}:pY id []=false:=rfl
theorem auZ{id j:Id}{b:ak}:pY id ((j,b)::h)=(qF id b || pY id h):=rfl
theorem auJ{id:Id}{r s x c}:qF id (.sl true r s x c)=false:=rfl
theorem auI{id:Id}{r s x c}:qF id (.sl false r s x c)=c.any (names id 4):=rfl
theorem auH{id:Id}{r c}:qF id (.bx r c)=c.any (names id 4):=rfl
theorem au8{id:Id}{d x}:names id d (.v x)=false:=by cases d <;> rfl
theorem au2{id:Id}{d m xs}:names id d (.arr m xs)=false:=by cases d <;> rfl
theorem abb{id:Id}{d o xs}:names id d (.ay xs o)=false:=by cases d <;> rfl
theorem au5{id j:Id}{d o m x}:names id d (.own j o m x)=(j==id):=by cases d <;> rfl
theorem au6{id j:Id}{d o x}:names id d (.ptr j o x)=(j==id):=by cases d <;> rfl
theorem au4{id:Id}{d f}:names id d (.fn f [] [])=false:=by
  cases d with
  |zero=>rfl
  |succ d=>simp[names]
theorem au1{id:Id}{d xs}:names id (d+1) (.agg xs)=xs.any (names id d):=rfl
theorem au3{id:Id}{d f a b}:names id (d+1) (.fn f a b)=(a.any (names id d) || b.any (names id d)):=by
  cases a <;> cases b <;> simp[names]
theorem afm{p:AV->Bool}:([]:List AV).any p=false:=rfl
theorem afl{p:AV->Bool}{x:AV}{xs:List AV}:(x::xs).any p=(p x || xs.any p):=rfl
theorem Vy{p:AV->Bool}:([]:List AV).all p=true:=rfl
theorem Vx{p:AV->Bool}{x:AV}{xs:List AV}:(x::xs).all p=(p x&&xs.all p):=rfl
theorem arz{k:Nat}:bW k []=[]:=rfl
theorem ary{k:Nat}{x:AV}{xs:List AV}:bW k (x::xs)=(k,x)::bW (k+1) xs:=rfl
end
def RR0:=af @go_skip<|af @apH<|af @go_ret<|af @apF<|af @apL<|af @apM<|af @axJ<|af @axL<|af @axK<|af @apC<|af @go_loop<|af @apD<|af @apf<|af @ape<|af @go_region<|af @apE<|af @axG<|af @axI<|af @axH<|af @axA<|af @axC<|af @axB<|af @axD<|af @axF<|af @axE<|af @axz<|af @axy<|af @ap0<|af @apY<|af @apm<|af @apZ<|af @aqj<|af @aqi<|af @apX<|af @apV<|af @apT<|af @apl<|af @apU<|af @aqh<|af @aqg<|af @ap2<| @ap1
def RR1:=af @ap3<|af @apO<|af @ap5<|af @ap7<|af @axM<|af @axO<|af @axN<|af @am6<|af @am5<|af @aAI<|af @aAT<|af @aAU<|af @aAV<|af @aw9<|af @aw8<|af @av6<|af @av5<|af @ahC<|af @ahB<|af @aib<|af @aia<|af @ah9<|af @ah8<|af @ai<|af @TZ<|af @af1<|af @afY<|af @afA<|af @afB<|af @af5<|af @afS<|af @afP<|af @afN<|af @afR<|af @afG<|af @anF<|af @afF<|af @afJ<|af @amL<|af @afW<|af @af4<|af @afy<|af @afZ<|af @afI<|af @afL<|af @afC<|af @afD<|af @afE<| @af2
def RR2:=af @av8<|af @av9<|af @ai0<|af @aiZ<|af @aez<|af @av4<|af @avY<|af @avW<|af @avZ<|af @av3<|af @avX<|af @av7<|af @Ud<|af @axm<|af @axc<|af @axi<|af @axj<|af @axk<|af @axd<|af @axe<|af @axf<|af @axb<|af @axl<|af @axg<|af @arI<|af @arB<|af @arE<|af @arF<|af @arG<|af @arC<|af @aau<|af @arD<|af @arA<|af @arH<|af @aui<|af @auh<|af @amg<|af @amf<|af @aqr<| @aqp
def RR3:=af @aes<|af @ae2<|af @ae5<|af @ae3<|af @Vu<|af @afc<|af @afb<|af @att<|af @atr<|af @arx<|af @am0<|af @amZ<|af @auM<|af @auN<|af @auL<|af @auK<|af @ao1<|af @ao0<|af @aoX<|af @aoV<|af @aoU<|af @amC<|af @amz<|af @amG<|af @amD<|af @amy<|af @Rq<|af @amB<|af @amE<|af @amI<|af @amJ<|af @amF<|af @amK<|af @amx<|af @amA<|af @Yh<|af @ah4<|af @ahY<|af @PN<| @ah0
def RR4:=af @ah1<|af @ah2<|af @ahT<|af @ahU<|af @ah3<|af @ahV<|af @ahX<|af @ahZ<|af @O6<|af @aeX<|af @aeW<|af @ae1<|af @aeZ<|af @ae0<|af @aeY<|af @ahL<|af @ahK<|af @ahJ<|af @ahI<|af @ahH<|af @ahM<|af @aiq<|af @aiz<|af @ait<|af @aiv<|af @aiw<|af @air<|af @aiu<|af @aiA<|af @ais<|af @aix<|af @aiy<|af @ahr<|af @ahq<|af @aen<|af @aeo<|af @ag8<|af @agN<|af @agO<| @ahd
def RR5:=af @ag3<|af @ag1<|af @agZ<|af @ag2<|af @aha<|af @agT<|af @arw<|af @at1<|af @atZ<|af @atY<|af @ars<|af @azn<|af @azm<|af @azo<|af @adh<|af @aw7<|af @aw6<|af @ah6<|af @akt<|af @aku<|af @aky<|af @akA<|af @akz<|af @akw<|af @akx<|af @akv<|af @akC<|af @akB<|af @agz<|af @agw<|af @agy<|af @auU<|af @auV<|af @auW<|af @auQ<|af @arP<|af @arL<|af @arN<|af @arO<| @ayV
def RR6:=af @ay2<|af @ay1<|af @ayX<|af @aeK<|af @aeJ<|af @aeI<|af @amh<|af @aio<|af @asi<|af @ar9<|af @ash<|af @asb<|af @ar8<|af @asf<|af @asc<|af @ase<|af @asa<|af @aby<|af @abv<|af @abD<|af @abC<|af @abq<|af @abz<|af @abA<|af @abB<|af @abw<|af @abx<|af @abu<|af @abt<|af @abr<|af @al9<|af @al7<|af @amw<|af @amv<|af @ame<|af @amd<|af @auw<|af @auv<|af @aqw<|af @aqv<|af @aqt<|af @aqs<|af @aoQ<|af @azA<| @azB
def RR7:=af @azD<|af @azC<|af @aul<|af @auk<|af @auP<|af @auO<|af @au0<|af @auZ<|af @auJ<|af @auI<|af @auH<|af @au8<|af @au2<|af @abb<|af @au5<|af @au6<|af @au4<|af @au1<|af @au3<|af @afm<|af @afl<|af @Vy<|af @Vx<|af @arz<| @ary
theorem ami{n:Nat}:(n<=n)=True:=eq_true (Nat.le_refl n)
def RR8:=af @List.getElem?_cons_zero.{0}<|af @List.getElem?_cons_succ.{0}<|af @List.set_cons_zero.{0}<|af @List.set_cons_succ.{0}<|af @List.drop_zero.{0}<|af @List.drop_succ_cons.{0}<|af @List.take_zero.{0}<|af @List.take_succ_cons.{0}<|af @List.length_cons.{0}<|af @List.length_nil.{0}<|af @List.map_cons.{0,0}<|af @List.map_nil.{0,0}<|af @List.flatten_cons.{0}<|af @List.flatten_nil.{0}<|af @List.nil_append.{0}<|af @List.append_nil.{0}<|af @List.cons_append.{0}<|af @List.isEmpty_nil.{0}<|af @List.isEmpty_cons.{0}<|af @List.replicate_succ.{0}<| @List.replicate_zero.{0}
def RR9:=af @and_true<|af @true_and<|af @and_false<|af @false_and<|af @Bool.or_false<|af @Bool.false_or<|af @Bool.or_true<|af @Bool.true_or<|af @Bool.and_true<|af @Bool.true_and<|af @Bool.and_false<|af @Bool.false_and<|af @Bool.and_self<|af @Bool.false_eq_true<|af @Nat.mul_one<|af @Nat.zero_add<|af @Nat.add_zero<|af @Nat.zero_mul<|af @Int.toNat_natCast<|af @decide_true<|af @decide_false<| @ami
def RR:=af RR0<|af RR1<|af RR2<|af RR3<|af RR4<|af RR5<|af RR6<|af RR7<|af RR8<|RR9
end Go.Av
