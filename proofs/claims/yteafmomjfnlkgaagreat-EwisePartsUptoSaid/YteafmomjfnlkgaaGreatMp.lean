/- More equations; all of them in one. Conditions: those that each names. -/
import Derived.Test.YteafmomjfnlkgaaGreatMq
set_option linter.unusedVariables false
set_option linter.defProp false
namespace Go.Av
section
variable {P:Program} {C:bn} {cp:af} {ci:bg} {lvl n:Nat} {e:Env} {h:Heap} {g:Id->Option ax} {α:Type} {f:α->AV} {c:α->List AV} {l:List α}
theorem aDa{x y:α}:(some x).getD y=x:=rfl
theorem aCA{y:α}:(none:Option α).getD y=y:=rfl
theorem aBL:(!true)=false:=rfl
theorem aFk:(!false)=true:=rfl
def Rq(want:Bool):AV→Option Bool
  | .v (.bool b)=>some (b==want)
  | .v _=>some false
  |_=>none
def wtD(want:Bool)(e:Nat→Option AV):Option Tmp→Option Bool
  |some d=>(e d).bind (Rq want)
  |none=>some false
theorem avx{all:List Oper}{e:Nat→Option AV}{d op ty pos after j want}:nV all e ⟨d,op,ty,pos,after,some (j,want)⟩=wtD want e ((all[j]?).bind (·.dst)):=by
  rw[azX]
  cases (all[j]?).bind (·.dst)with
  |none=>rfl
  | some d=>
    simp only[wtD]
    congr 1
theorem aG5{want:Bool}{e:Nat->Option AV}{d:Tmp}:wtD want e (some d)=(e d).bind (Rq want):=rfl
theorem aDb{want b:Bool}:Rq want (.v (.bool b))=some (b==want):=rfl
theorem awE{want:Bool}:Rq want (.v undef)=some false:=rfl
theorem aFR{d k x}:aG g d (.v (.int k x))=some (.v (.int k x)):=by cases d <;> rfl
theorem anx{d x}:aG g d (.v (.bool x))=some (.v (.bool x)):=by cases d <;> rfl
theorem apD{d x}:aG g d (.v (.string x))=some (.v (.string x)):=by cases d <;> rfl
theorem aLC{d cc}:aG g d (.v (.slice none 0 cc))=some (.arr 0 []):=by cases d <;> rfl
theorem aHX{d m xs}:aG g d (.arr m xs)=some (.arr m xs):=by cases d <;> rfl
theorem U1{d o xs}:aG g d (.aF xs o)=some (.aF xs o):=by cases d <;> rfl
theorem asi{d k}:aG g d (.fn k [] [])=some (.fn k [] []):=by cases d <;> rfl
theorem E8{F:AV→Option AV}: ∀ {xs:List AV},xs.mapM F=aV F xs
  |[]=>rfl
  | x::xs=>by
    rw[List.mapM_cons,E8]
    rfl
def GK(g:Id→Option ax)(d off m ext:Nat):ax→Option AV
  | .sl true _ sz e cells=>if e=ext then some (.arr m (cut cells off m sz e))else none
  | .sl false _ sz e cells=>match d with
    |0=>none
    |d+1=>if e=ext then(aV (aG g d) cells).bind λcs=>some (.arr m (cut cs off m sz e))else none
  |_=>none
theorem aGx{d:Nat}{id:Id}{off m ext:Nat}:aG g d (.own id off m ext)=(g id).bind (GK g d off m ext):=by
  cases d with
  | zero=>
    simp only[aG]
    cases g id with
    |none=>rfl
    | some b=>cases b with
      |bx=>rfl
      |sl cl=>cases cl <;> rfl
  | succ d=>
    simp only[aG,E8]
    cases g id with
    |none=>rfl
    | some b=>cases b with
      |bx=>rfl
      |sl cl=>cases cl <;> rfl
theorem aLd{d off m ext r sz cells}:GK g d off m ext (.sl true r sz ext cells)=some (.arr m (cut cells off m sz ext)):=by simp[GK]
theorem aHB{d off m ext r sz cells}:GK g (d+1) off m ext (.sl false r sz ext cells)=(aV (aG g d) cells).bind λcs=>some (.arr m (cut cs off m sz ext)):=by simp[GK]
def exP(g:Id→Option ax)(d off ext:Nat):ax→Option AV
  | .bx _ cells=>if ext=0 then(aV (aG g d) cells).bind λxs=>some (.aF xs off)else none
  |_=>none
theorem apo{d:Nat}{id:Id}{off ext:Nat}:aG g (d+1) (.ptr id off ext)=(g id).bind (exP g d off ext):=by
  simp only[aG,E8]
  cases g id with
  |none=>rfl
  |some b=>cases b <;> rfl
theorem am0{d off r cells}:exP g d off 0 (.bx r cells)=(aV (aG g d) cells).bind λxs=>some (.aF xs off):=rfl
theorem azf{d:Nat}{xs:List AV}:aG g (d+1) (.agg xs)=(aV (aG g d) xs).bind fun ys=>some (.agg ys):=by
  simp only[aG,E8]
theorem aDc{d:Nat}{k:FuncId}{a b:List AV}:aG g (d+1) (.fn k a b)=(aV (aG g d) a).bind fun a'=>(aV (aG g d) b).bind fun b'=>some (.fn k a' b'):=by
  cases a <;> cases b <;> simp[aG,E8,aV]
theorem aHv{cells:List AV}{m sz ext:Nat}(h:m=ext):cut cells 0 m sz ext=cells:=by simp[cut,h]
theorem ayY{d x}:aO g d (.v x)=[]:=by cases d <;> rfl
theorem auP{d m xs}:aO g d (.arr m xs)=[]:=by cases d <;> rfl
theorem XY{d o xs}:aO g d (.aF xs o)=[]:=by cases d <;> rfl
theorem aIB{d k}:aO g d (.fn k [] [])=[]:=by cases d <;> rfl
def OD(g:Id→Option ax)(d:Nat):Option ax→List Id
  |some (.sl false _ _ _ cells)=>(cells.map (aO g d)).flatten
  |_=>[]
theorem ayE{d:Nat}{id:Id}{off m ext:Nat}:aO g (d+1) (.own id off m ext)=id::OD g d (g id):=by
  have: ∀ b,g id=b→aO g (d+1) (.own id off m ext)=id::OD g d b:=fun b hb=>by
    unfold aO
    rw[hb]
    rfl
  exact this _ rfl
theorem anb{id:Id}{off m ext:Nat}:aO g 0 (.own id off m ext)=[id]:=rfl
theorem aBp{d r sz ext cells}:OD g d (some (.sl true r sz ext cells))=[]:=rfl
theorem axD{d r sz ext cells}:OD g d (some (.sl false r sz ext cells))=(cells.map (aO g d)).flatten:=rfl
def SK(g:Id→Option ax)(d:Nat):Option ax→List Id
  |some (.bx _ cells)=>(cells.map (aO g d)).flatten
  |_=>[]
theorem aFu{d:Nat}{id:Id}{off ext:Nat}:aO g (d+1) (.ptr id off ext)=id::SK g d (g id):=by
  have: ∀ b,g id=b→aO g (d+1) (.ptr id off ext)=id::SK g d b:=fun b hb=>by
    unfold aO
    rw[hb]
    rfl
  exact this _ rfl
theorem ayz{d r cells}:SK g d (some (.bx r cells))=(cells.map (aO g d)).flatten:=rfl
theorem aCN{d:Nat}{xs:List AV}:aO g (d+1) (.agg xs)=(xs.map (aO g d)).flatten:=rfl
theorem anp{d:Nat}{k:FuncId}{a b:List AV}:aO g (d+1) (.fn k a b)=(a.map (aO g d)).flatten++(b.map (aO g d)).flatten:=rfl
theorem anP{d:Nat}{r:AV}{fl:List Id}:kG lvl d h (some (r,fl))=qo lvl d (dH h fl) (some r):=rfl
theorem VW{d x}:alias d (.v x)=false:=by cases d <;> rfl
theorem auw{d m xs}:alias d (.arr m xs)=true:=by cases d <;> rfl
theorem atD{d xs}:alias (d+1) (.agg xs)=xs.any (alias d):=rfl
theorem aFt{d xs}:alias (d+1) (.tuple xs)=xs.any (alias d):=rfl
theorem arh{d sz m xs}:alias (d+1) (.fresh sz m xs)=xs.any (alias d):=rfl
theorem aA2{d:Nat}{k:IntKind}{l:List Int}:(lm (ik k) l).any (alias d)=false:=by
  simp only[List.any_eq_false,lm,List.mem_map]
  rintro x ⟨y,_,rfl⟩
  simp[ik,VW]
theorem anH{d:Nat}{l:List Bool}:(lm bk l).any (alias d)=false:=by
  simp only[List.any_eq_false,lm,List.mem_map]
  rintro x ⟨y,_,rfl⟩
  simp[bk,VW]
def oZ{α:Type}(l:List α)(a b:Nat):List α:=(l.drop a).take (b - a)
theorem aA8{a b:Nat}(h:b≤l.length):(oZ l a b).length=b - a:=by
  simp only[oZ,List.length_take,List.length_drop];omega
def QZ(sz n:Nat)(xs:List AV)(l r:Nat):Option AV:=if l<=r/\r<=n then some (.arr (r - l) (if l=0/\r=n then xs else(xs.drop (l*sz)).take ((r - l)*sz)))else none
theorem ard{t el:TypeId}{sz by_ m:Nat}{xs:List AV}{lo hi:Option AV}(htv:aP P t=some (.slice el sz by_)):
    oN P t g (.arr m xs) lo hi=(jq lo 0).bind λl=>(jq hi m).bind λr=>QZ sz m xs l r:=by
  simp only[oN,htv,ob_some];rfl
theorem azz{l:List α}{a b:Nat}(h1:a≤b)(h2:b≤l.length):QZ 1 l.length (lm f l) a b=some (.arr (oZ l a b).length (lm f (oZ l a b))):=by
  simp only[QZ]
  rw[if_pos ⟨h1,h2⟩,aA8 h2]
  by_cases hh:a=0/\b=l.length
  · obtain⟨rfl,rfl⟩:=hh
    rw[if_pos ⟨rfl,rfl⟩]
    simp[oZ]
  · rw[if_neg hh]
    simp[oZ,lm,List.map_take,List.map_drop]
theorem awX{d:Nat}:jq none d=some d:=rfl
theorem awO{k:IntKind}{x:Int}{d:Nat}(h:0<=x):jq (some (.v (.int k x))) d=some x.toNat:=by simp[jq,h]
theorem aIt{α β:Type}{F:α->Option β}:oQ F none=some none:=rfl
theorem azc{α β:Type}{F:α->Option β}{x:α}:oQ F (some x)=(F x).bind λy=>some (some y):=rfl
def Kq(id:Id)(off ext sz l r:Nat):ax→Option AV
  | .sl _ _ sz' ext' _=>if sz'=sz/\ext'=ext/\l<=r/\off+r*sz<=ext*sz/\0<sz then some (.own id (off+l*sz) (r - l) ext)else none
  |_=>none
theorem ayA{t el:TypeId}{sz by_ off m ext:Nat}{id:Id}{lo hi:Option AV}(htv:aP P t=some (.slice el sz by_)):
    oN P t g (.own id off m ext) lo hi=(g id).bind λb=>(jq lo 0).bind λl=>(jq hi m).bind λr=>Kq id off ext sz l r b:=by
  simp only[oN,htv,ob_some]
  cases g id with
  |none=>rfl
  | some b=>
    cases b with
    | bx=>
      simp only[ob_some]
      cases jq lo 0 with
      |none=>rfl
      | some a=>
        simp only[ob_some]
        cases jq hi m <;> rfl
    |sl=>rfl
theorem anG{id:Id}{off ext sz l r:Nat}{cl rw cells}(h1:l≤r)(h2:off+r*sz≤ext*sz)(h3:0<sz):Kq id off ext sz l r (.sl cl rw sz ext cells)=some (.own id (off+l*sz) (r - l) ext):=by
  simp[Kq,h1,h2,h3]
def aj2(place:Nat→Option (Nat×Nat))(cells:List AV)(x:AV)(rest:List (Nat×AV))(r:Nat×Nat):Option (List AV):=
  if x.cells.length=r.2/\r.1+r.2<=cells.length/\x.cells.all AV.one=true then lV place (putCells cells r.1 x.cells) rest else none
theorem aIL{place:Nat->Option (Nat×Nat)}{cells:List AV}:lV place cells []=some cells:=rfl
theorem anA{place:Nat->Option (Nat×Nat)}{cells:List AV}{i:Nat}{x:AV}{rest:List (Nat×AV)}:lV place cells ((i,x)::rest)=(place i).bind (aj2 place cells x rest):=rfl
theorem atO{place:Nat→Option (Nat×Nat)}{cells:List AV}{x:AV}{rest:List (Nat×AV)}{o s:Nat}:
  aj2 place cells x rest (o,s)=if x.cells.length=s/\o+s<=cells.length/\x.cells.all AV.one=true then lV place (putCells cells o x.cells) rest else none:=rfl
def gq(P:Program)(t i:Nat):Option (Nat×Nat):=(dh P t i).map λr=>(r.1,bi P r.2)
def ZL(sz i:Nat):Option (Nat×Nat):=some (i*sz,sz)
theorem aB3{sz i:Nat}:ZL sz i=some (i*sz,sz):=rfl
theorem aKO{t:TypeId}{z:List AV}{parts:List (Nat×AV)}(hz:dG P t=some z)(ht:aP P t=some .struct):yE P t parts=(lV (gq P t) z parts).bind fun xs=>some (.agg xs):=by
  simp only[yE,hz,ht,ob_some];rfl
def YO(sz len:Nat)(xs:List AV):Option AV:=some (if xs.all AV.isC=true then .fresh sz len xs else .freshO sz len xs)
theorem as8{sz len:Nat}{xs:List AV}:YO sz len xs=some (if xs.all AV.isC=true then .fresh sz len xs else .freshO sz len xs):=rfl
theorem auc{t el:TypeId}{sz by_ len:Nat}{z:List AV}{parts:List (Nat×AV)}(ht:aP P t=some (.slice el sz by_))(hz:dG P el=some z)(h1:len*sz≤16777216)(h2:z.length=sz)(h3:0<sz):
    wY P t len parts=(lV (ZL sz) (List.replicate len z).flatten parts).bind (YO sz len):=by
  simp only[wY,hz,ht,ob_some]
  rw[if_pos ⟨by omega,h2,h3⟩]
  rfl
theorem asy{k x}:AV.isC (.v (.int k x))=true:=rfl
theorem ary{x}:AV.isC (.v (.bool x))=true:=rfl
theorem aGk{x}:AV.isC (.v (.string x))=true:=rfl
theorem aCr{a b c}:AV.isC (.v (.slice a b c))=false:=rfl
theorem anr{m xs}:AV.isC (.arr m xs)=true:=rfl
theorem asu{o xs}:AV.isC (.aF xs o)=true:=rfl
theorem aBm{id o m x}:AV.isC (.own id o m x)=false:=rfl
theorem aFP{id o x}:AV.isC (.ptr id o x)=false:=rfl
theorem auk{k a b}:AV.isC (.fn k a b)=false:=rfl
theorem amd{k x}:AV.one (.v (.int k x))=true:=rfl
theorem aev{x}:AV.one (.v (.bool x))=true:=rfl
theorem aed{x}:AV.one (.v (.string x))=true:=rfl
theorem ajK{a m x}:AV.one (.v (.slice a m x))=true:=rfl
theorem aec{m xs}:AV.one (.arr m xs)=true:=rfl
theorem ajT{id o m x}:AV.one (.own id o m x)=true:=rfl
theorem acL{id o x}:AV.one (.ptr id o x)=true:=rfl
theorem ae1{o xs}:AV.one (.aF xs o)=true:=rfl
theorem aep{k a b}:AV.one (.fn k a b)=true:=rfl
theorem avp{k x}:AV.cells (.v (.int k x))=[.v (.int k x)]:=rfl
theorem aAk{x}:AV.cells (.v (.bool x))=[.v (.bool x)]:=rfl
theorem aLa{x}:AV.cells (.v (.string x))=[.v (.string x)]:=rfl
theorem aHd{a m x}:AV.cells (.v (.slice a m x))=[.v (.slice a m x)]:=rfl
theorem ao9{e:Nat->Option AV}{x}:az e (.const (.string x))=some (.v (.string x)):=rfl
def yO(y:AV)(ext:Nat)(b:ax):Option AV:=if b.ext==ext then some y else none
def Q4(g:Id→Option ax)(y:AV):Option AV:=match y with
    | .ptr id _ ext=>(g id).bind (yO y ext)
    | .aF _ _=>some y
    | .fn _ _ _=>some y
    |_=>none
theorem awG{d:Option Tmp}{x:Operand}:bW P C cp ci lvl e h d (.nilCheck x)=qo lvl (d.getD 0) h ((az e.get x).bind (Q4 h.get)):=by
  rw[anX]
  congr 2
  funext y
  cases y <;> try rfl
  rename_i id off ext
  have: ∀ b,h.get id=b→(if live h.get id ext=true then some (AV.ptr id off ext)else none)=b.bind (yO (.ptr id off ext) ext):=fun b hb=>by
    unfold live
    rw[hb]
    cases b <;> rfl
  exact this _ rfl
theorem aLr{id:Id}{off ext:Nat}:Q4 g (.ptr id off ext)=(g id).bind (yO (.ptr id off ext) ext):=rfl
theorem azT{xs off}:Q4 g (.aF xs off)=some (.aF xs off):=rfl
theorem avR{y:AV}{cl rw sz ext cells}:yO y ext (.sl cl rw sz ext cells)=some y:=by simp[yO,ax.ext]
theorem aGW{y:AV}{rw cells}:yO y 0 (.bx rw cells)=some y:=by simp[yO,ax.ext]
theorem aJh{op:BinOp}{t:TypeId}{a b:Bool}(ht:aP P t=some .bool):nU P op t (.v (.bool a)) (.v (.bool b))=Eg op a b:=by simp[nU,ht]
def qO(P:Program)(src dst:TypeId)(a:AV):Option AV:=(aP P src).bind fun _=>(aP P dst).bind fun tv=>(lT a).bind fun n=>match tv with
      | .int k=>some (.v (.int k (k.wrap n)))
      |_=>none
theorem aFZ{d:Option Tmp}{src dst:TypeId}{x:Operand}:bW P C cp ci lvl e h d (.convert src dst x)=qo lvl (d.getD 0) h ((az e.get x).bind (qO P src dst)):=jI (λ_ _ _ h=>by cases h) rfl
theorem yU{src dst:TypeId}{k k':IntKind}{v:TV}{z:Int}(h1:aP P src=some v)(h2:aP P dst=some (.int k)):qO P src dst (.v (.int k' z))=some (.v (.int k (wk k z))):=by
  simp[qO,h1,h2,lT,wk]
def CU(P:Program)(t i:Nat)(a:AV):Option AV:=(dh P t i).bind fun r=>match a with
    | .agg xs=>part P xs r.2 r.1
    |_=>none
theorem aoT{d:Option Tmp}{t i:Nat}{x:Operand}:bW P C cp ci lvl e h d (.field t x i)=qo lvl (d.getD 0) h ((az e.get x).bind (CU P t i)):=ayR
theorem abV{t i o:Nat}{ft:TypeId}{xs:List AV}(hf:dh P t i=some (o,ft)):CU P t i (.agg xs)=part P xs ft o:=by simp[CU,hf]
end
section
variable {P:Program} {C:bn} {cp:af} {ci:bg} {lvl n:Nat} {e:Env} {h:Heap} {all:Heap} {g:Id->Option ax} {prot:List Id}
theorem asZ{k:Nat}{y:AV}:Env.set [] k y=[(k,y)]:=rfl
theorem aBH{j k:Nat}{x y:AV}:Env.set ((j,x)::e) k y=if j=k then(j,y)::e else if k<j then(k,y)::(j,x)::e else(j,x)::Env.set e k y:=rfl
theorem aBS{ds:List Nat}:Env.drop ds []=[]:=rfl
theorem aFB{ds:List Nat}{j:Nat}{x:AV}:Env.drop ds ((j,x)::e)=if jw ds j=true then Env.drop ds e else(j,x)::Env.drop ds e:=rfl
theorem aCt{k:Nat}:jw [] k=false:=rfl
theorem aJl{l:List Nat}{j k:Nat}:jw (j::l) k=if j=k then true else jw l k:=rfl
theorem aGU{k:Id}{y:ax}:Heap.set [] k y=[(k,y)]:=rfl
theorem az0{j k:Id}{x y:ax}:Heap.set ((j,x)::h) k y=if j=k then(j,y)::h else(j,x)::Heap.set h k y:=rfl
def hnB(h:Heap)(k:Id)(y:ax):Option ax→Option Heap
  |none=>some (Heap.set h k y)
  |some _=>none
theorem ayc{k:Id}{y:ax}:Heap.new h k y=hnB h k y (h.get k):=by
  unfold Heap.new
  cases h.get k <;> rfl
theorem aJy{k:Id}{y:ax}:hnB h k y none=some (Heap.set h k y):=rfl
theorem asF:sweep prot e h=pX prot e (pX prot e h):=rfl
theorem aIV:pX prot e h=sH prot e h h:=rfl
theorem avV:sH prot e all []=[]:=rfl
theorem axw{id:Id}{b:ax}:sH prot e all ((id,b)::h)=if(lC prot id || (mO id e || pq id all))=true then(id,b)::sH prot e all h else sH prot e all h:=rfl
theorem aH3{k:Id}:lC [] k=false:=rfl
theorem atV{l:List Id}{j k:Id}:lC (j::l) k=if j=k then true else lC l k:=rfl
theorem anC{id:Id}:mO id []=false:=rfl
theorem aAU{id:Id}{j:Nat}{x:AV}:mO id ((j,x)::e)=(names id 4 x || mO id e):=rfl
theorem auW{id:Id}:pq id []=false:=rfl
theorem aLZ{id j:Id}{b:ax}:pq id ((j,b)::h)=(pK id b || pq id h):=rfl
theorem aGg{id:Id}{r s x c}:pK id (.sl true r s x c)=false:=rfl
theorem ap1{id:Id}{r s x c}:pK id (.sl false r s x c)=c.any (names id 4):=rfl
theorem aD6{id:Id}{r c}:pK id (.bx r c)=c.any (names id 4):=rfl
theorem aGO{id:Id}{d x}:names id d (.v x)=false:=by cases d <;> rfl
theorem aE0{id:Id}{d m xs}:names id d (.arr m xs)=false:=by cases d <;> rfl
theorem adF{id:Id}{d o xs}:names id d (.aF xs o)=false:=by cases d <;> rfl
theorem aJA{id j:Id}{d o m x}:names id d (.own j o m x)=(j==id):=by cases d <;> rfl
theorem aCI{id j:Id}{d o x}:names id d (.ptr j o x)=(j==id):=by cases d <;> rfl
theorem aGn{id:Id}{d f}:names id d (.fn f [] [])=false:=by
  cases d with
  |zero=>rfl
  |succ d=>simp[names]
theorem atx{id:Id}{d xs}:names id (d+1) (.agg xs)=xs.any (names id d):=rfl
theorem aow{id:Id}{d f a b}:names id (d+1) (.fn f a b)=(a.any (names id d) || b.any (names id d)):=by
  cases a <;> cases b <;> simp[names]
theorem aJU{p:AV->Bool}:([]:List AV).any p=false:=rfl
theorem awS{p:AV->Bool}{x:AV}{xs:List AV}:(x::xs).any p=(p x || xs.any p):=rfl
theorem agW{p:AV->Bool}:([]:List AV).all p=true:=rfl
theorem acG{p:AV->Bool}{x:AV}{xs:List AV}:(x::xs).all p=(p x&&xs.all p):=rfl
theorem aKb{k:Nat}:ay k []=[]:=rfl
theorem azH{k:Nat}{x:AV}{xs:List AV}:ay k (x::xs)=(k,x)::ay (k+1) xs:=rfl
end
def RR0:=And.intro @go_skip<|And.intro @aL7<|And.intro @go_ret<|And.intro @aI3<|And.intro @aF4<|And.intro @aCT<|And.intro @aG0<|And.intro @arY<|And.intro @atg<|And.intro @auU<|And.intro @go_loop<|And.intro @axi<|And.intro @aMs<|And.intro @aIQ<|And.intro @go_region<|And.intro @aLH<|And.intro @aKC<|And.intro @anc<|And.intro @aBQ<|And.intro @aIg<|And.intro @asz<|And.intro @aF9<|And.intro @ax8<|And.intro @ane<|And.intro @aFU<|And.intro @azo<|And.intro @auF<|And.intro @arC<|And.intro @aAr<|And.intro @av6<|And.intro @aqE<|And.intro @awk<|And.intro @aon<|And.intro @awq<|And.intro @aBs<|And.intro @aL4<|And.intro @ay9<|And.intro @axt<|And.intro @aEC<|And.intro @arw<|And.intro @aLA<| @aI4
def RR1:=And.intro @aJS<|And.intro @aqm<|And.intro @aEE<|And.intro @aJs<|And.intro @am4<|And.intro @aA7<|And.intro @aIn<|And.intro @azC<|And.intro @axy<|And.intro @avx<|And.intro @aG5<|And.intro @aDb<|And.intro @awE<|And.intro @aqz<|And.intro @aFG<|And.intro @aDa<|And.intro @aCA<|And.intro @aBL<|And.intro @aFk<|And.intro @aum<|And.intro @aDC<|And.intro @aHf<|And.intro @aId<|And.intro @ob_some<|And.intro @Vd<|And.intro @ayx<|And.intro @aHV<|And.intro @aE4<|And.intro @apx<|And.intro @apg<|And.intro @aJ8<|And.intro @aF0<|And.intro @arA<|And.intro @atr<|And.intro @aLN<|And.intro @aKQ<|And.intro @asK<|And.intro @aKe<|And.intro @aJT<|And.intro @aya<|And.intro @aHo<|And.intro @anf<|And.intro @awG<|And.intro @aFZ<|And.intro @aoT<|And.intro @ars<|And.intro @ayv<|And.intro @aKp<| @aHn
def RR2:=And.intro @aIt<|And.intro @azc<|And.intro @auZ<|And.intro @anP<|And.intro @azg<|And.intro @aqd<|And.intro @aMp<|And.intro @aK6<|And.intro @azF<|And.intro @ao9<|And.intro @apE<|And.intro @aAY<|And.intro @GR<|And.intro @ax6<|And.intro @ayq<|And.intro @aoJ<|And.intro @avO<|And.intro @awr<|And.intro @ayN<|And.intro @aoe<|And.intro @aI6<|And.intro @aEb<|And.intro @ap5<|And.intro @aCx<|And.intro @asU<|And.intro @ax2<|And.intro @au9<|And.intro @an3<|And.intro @aHO<|And.intro @asL<|And.intro @ai0<|And.intro @aHa<|And.intro @asV<|And.intro @aGv<|And.intro @aCf<|And.intro @aqN<|And.intro @aJ3<|And.intro @aE2<|And.intro @awz<| @aKA
def RR3:=And.intro @aqs<|And.intro @aEr<|And.intro @av2<|And.intro @aAZ<|And.intro @aeU<|And.intro @aHC<|And.intro @aL8<|And.intro @arL<|And.intro @aHJ<|And.intro @avv<|And.intro @auV<|And.intro @aCO<|And.intro @aLr<|And.intro @azT<|And.intro @avR<|And.intro @aGW<|And.intro @aos<|And.intro @avg<|And.intro @avm<|And.intro @atE<|And.intro @aCc<|And.intro @aFR<|And.intro @anx<|And.intro @apD<|And.intro @aLC<|And.intro @aHX<|And.intro @U1<|And.intro @asi<|And.intro @aGx<|And.intro @aLd<|And.intro @aHB<|And.intro @apo<|And.intro @am0<|And.intro @azf<|And.intro @aDc<|And.intro @aHv<|And.intro @ayY<|And.intro @auP<|And.intro @XY<| @aIB
def RR4:=And.intro @ayE<|And.intro @anb<|And.intro @aBp<|And.intro @axD<|And.intro @aFu<|And.intro @ayz<|And.intro @aCN<|And.intro @anp<|And.intro @VW<|And.intro @auw<|And.intro @atD<|And.intro @aFt<|And.intro @arh<|And.intro @aA2<|And.intro @anH<|And.intro @auz<|And.intro @aAO<|And.intro @aEn<|And.intro @asr<|And.intro @aqY<|And.intro @axP<|And.intro @aFN<|And.intro @aDO<|And.intro @aHR<|And.intro @aDK<|And.intro @axM<|And.intro @aJD<|And.intro @aGM<|And.intro @aCW<|And.intro @aKJ<|And.intro @avk<|And.intro @aJu<|And.intro @aw2<|And.intro @aru<|And.intro @anq<|And.intro @aIx<|And.intro @aBZ<|And.intro @arV<|And.intro @ao0<| @axU
def RR5:=And.intro @ark<|And.intro @auY<|And.intro @axr<|And.intro @aJH<|And.intro @aJj<|And.intro @anK<|And.intro @aJY<|And.intro @aBI<|And.intro @aBb<|And.intro @aCZ<|And.intro @aGd<|And.intro @aKj<|And.intro @aKW<|And.intro @aGH<|And.intro @akR<|And.intro @aGD<|And.intro @awL<|And.intro @aKX<|And.intro @aJJ<|And.intro @au1<|And.intro @asw<|And.intro @awf<|And.intro @aHT<|And.intro @awt<|And.intro @avp<|And.intro @aAk<|And.intro @aLa<|And.intro @aHd<|And.intro @aIM<|And.intro @aqH<|And.intro @axs<|And.intro @ayP<|And.intro @azn<|And.intro @aC5<|And.intro @auq<|And.intro @aEj<|And.intro @aHj<|And.intro @aC0<|And.intro @aFS<| @azz
def RR6:=And.intro @awX<|And.intro @awO<|And.intro @anG<|And.intro @aIL<|And.intro @anA<|And.intro @atO<|And.intro @aB3<|And.intro @as8<|And.intro @asy<|And.intro @ary<|And.intro @aGk<|And.intro @aCr<|And.intro @anr<|And.intro @asu<|And.intro @aBm<|And.intro @aFP<|And.intro @auk<|And.intro @amd<|And.intro @aev<|And.intro @aed<|And.intro @ajK<|And.intro @aec<|And.intro @ajT<|And.intro @acL<|And.intro @ae1<|And.intro @aep<|And.intro @Lj<|And.intro @Qz<|And.intro @afZ<|And.intro @amy<|And.intro @aJB<|And.intro @anM<|And.intro @asZ<|And.intro @aBH<|And.intro @aBS<|And.intro @aFB<|And.intro @aCt<|And.intro @aJl<|And.intro @aGU<|And.intro @az0<|And.intro @ayc<|And.intro @aJy<|And.intro @aMA<|And.intro @aIV<| @asF
def RR7:=And.intro @avV<|And.intro @axw<|And.intro @aH3<|And.intro @atV<|And.intro @anC<|And.intro @aAU<|And.intro @auW<|And.intro @aLZ<|And.intro @aGg<|And.intro @ap1<|And.intro @aD6<|And.intro @aGO<|And.intro @aE0<|And.intro @adF<|And.intro @aJA<|And.intro @aCI<|And.intro @aGn<|And.intro @atx<|And.intro @aow<|And.intro @aJU<|And.intro @awS<|And.intro @agW<|And.intro @acG<|And.intro @aKb<| @azH
theorem azZ{n:Nat}:(n<=n)=True:=eq_true (Nat.le_refl n)
def RR8:=And.intro @List.getElem?_cons_zero.{0}<|And.intro @List.getElem?_cons_succ.{0}<|And.intro @List.set_cons_zero.{0}<|And.intro @List.set_cons_succ.{0}<|And.intro @List.drop_zero.{0}<|And.intro @List.drop_succ_cons.{0}<|And.intro @List.take_zero.{0}<|And.intro @List.take_succ_cons.{0}<|And.intro @List.length_cons.{0}<|And.intro @List.length_nil.{0}<|And.intro @List.map_cons.{0,0}<|And.intro @List.map_nil.{0,0}<|And.intro @List.flatten_cons.{0}<|And.intro @List.flatten_nil.{0}<|And.intro @List.nil_append.{0}<|And.intro @List.append_nil.{0}<|And.intro @List.cons_append.{0}<|And.intro @List.isEmpty_nil.{0}<|And.intro @List.isEmpty_cons.{0}<|And.intro @List.replicate_succ.{0}<| @List.replicate_zero.{0}
def RR9:=And.intro @and_true<|And.intro @true_and<|And.intro @and_false<|And.intro @false_and<|And.intro @Bool.or_false<|And.intro @Bool.false_or<|And.intro @Bool.or_true<|And.intro @Bool.true_or<|And.intro @Bool.and_true<|And.intro @Bool.true_and<|And.intro @Bool.and_false<|And.intro @Bool.false_and<|And.intro @Bool.and_self<|And.intro @Bool.false_eq_true<|And.intro @Nat.mul_one<|And.intro @Nat.zero_add<|And.intro @Nat.add_zero<|And.intro @Nat.zero_mul<|And.intro @Int.toNat_natCast<|And.intro @decide_true<|And.intro @decide_false<| @azZ
def RR:=And.intro RR0<|And.intro RR1<|And.intro RR2<|And.intro RR3<|And.intro RR4<|And.intro RR5<|And.intro RR6<|And.intro RR7<|And.intro RR8<|RR9
end Go.Av
