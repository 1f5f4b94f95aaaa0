/- Results; contracts as tables; what closures hold. Conditions: those that each names. -/
import Derived.Test.YteafmomjfnlkgaaGreatMp
set_option linter.unusedVariables false
set_option linter.defProp false
namespace Go.Av
section
variable {P:Program} {C:bn} {cp:af} {ci:bg} {lvl n:Nat} {e:Env} {h:Heap} {g:Id->Option ax} {us:List Id} {α:Type}
def adq(P:Program)(ts:List TypeId)(h:Heap)(rs:List AV):Option AV:=
  (dP (dY (dH h ((rs.map (jX h.get 4)).flatten)).get 4) rs []).bind λr=>some (one (rE P ts r.1))
theorem apB{rs ts}:yx P ⟨.skip,rs,ts⟩ e h=(aV (kS P e h) rs).bind (adq P ts h):=rfl
theorem az5{ts rs}:adq P ts h rs=(dP (dY (dH h ((rs.map (jX h.get 4)).flatten)).get 4) rs []).bind λr=>some (one (rE P ts r.1)):=rfl
theorem adh{t}:kS P e h (.tmp t)=e.get t:=rfl
theorem amQ{t ty}:kS P e h (.cell t ty)=(e.get t).bind λp=>o6 P h.get ty p:=rfl
theorem aMD{d x}:jX g d (.v x)=[]:=by cases d <;> rfl
theorem aHc{d m xs}:jX g d (.arr m xs)=[]:=by cases d <;> rfl
theorem aEP{d o xs}:jX g d (.aF xs o)=[]:=by cases d <;> rfl
theorem ayO{d k}:jX g d (.fn k [] [])=[]:=by cases d <;> rfl
def Uw(g:Id→Option ax)(d:Nat)(id:Id)(off n ext:Nat):Option ax→List Id
  |some (.sl false _ _ _ _)=>aO g (d+1) (.own id off n ext)
  |_=>[]
theorem azt{d:Nat}{id:Id}{off m ext:Nat}:jX g (d+1) (.own id off m ext)=Uw g d id off m ext (g id):=by
  have: ∀ b,g id=b→jX g (d+1) (.own id off m ext)=Uw g d id off m ext b:=fun b hb=>by
    unfold jX
    rw[hb]
    rfl
  exact this _ rfl
theorem apc{d id off m ext r s x c}:Uw g d id off m ext (some (.sl true r s x c))=[]:=rfl
theorem aog{d xs}:jX g (d+1) (.agg xs)=(xs.map (jX g d)).flatten:=rfl
theorem aK1{d xs}:jX g (d+1) (.tuple xs)=(xs.map (jX g d)).flatten:=rfl
theorem aJP{d x}:dY g d (.v x) us=some (.v x,us):=by cases d <;> rfl
theorem aox{d m xs}:dY g d (.arr m xs) us=some (.arr m xs,us):=by cases d <;> rfl
theorem aF1{d o xs}:dY g d (.aF xs o) us=some (.aF xs o,us):=by cases d <;> rfl
def IG (g :Id→Option ax)(d:Nat)(id:Id)(off n ext:Nat)(us:List Id):ax→Option (AV×List Id)
  | .sl true true sz e cells=>if e=ext/\off=0/\n<=e/\us.contains id=false then some (.fresh sz n (cut cells off n sz e),id::us)else none
  | .sl true false sz e cells=>if e=ext then some (.arr n (cut cells off n sz e),us)else none
  | .sl false false sz e cells=>match d with
    |0=>none
    | d + 1 =>if e=ext∧((cells.map (aO g d)).flatten).all (Bd g)=true then
            (cells.mapM (aG g d)).bind λcs=>some (.arr n (cut cs off n sz e),us)else none
  |_=>none
theorem avh{d:Nat}{id:Id}{off m ext:Nat}:dY g d (.own id off m ext) us=(g id).bind (IG g d id off m ext us):=by
  cases d with
  | zero=>
    simp only[dY]
    cases g id with
    |none=>rfl
    | some b=>cases b with
      |bx=>rfl
      |sl cl rw=>cases cl <;> cases rw <;> rfl
  | succ d=>
    simp only[dY]
    cases g id with
    |none=>rfl
    | some b=>cases b with
      |bx=>rfl
      |sl cl rw=>cases cl <;> cases rw <;> rfl
theorem azU{d id m ext sz cells}(h1:m=ext)(hu:us.contains id=false):IG g d id 0 m ext us (.sl true true sz ext cells)=some (.fresh sz m cells,id::us):=by
  subst h1;simp only[IG,cut,hu];simp
theorem ao4{d id off m ext sz cells}:IG g d id off m ext us (.sl true false sz ext cells)=some (.arr m (cut cells off m sz ext),us):=by simp[IG]
theorem aJn{d xs}:dY g (d+1) (.agg xs) us=(dP (dY g d) xs us).bind λr=>some (.agg r.1,r.2):=rfl
theorem aH6{d xs}:dY g (d+1) (.tuple xs) us=(dP (dY g d) xs us).bind λr=>some (.tuple r.1,r.2):=rfl
theorem aJK{id:Id}:([]:List Id).contains id=false:=rfl
theorem aty{id j:Id}:(j::us).contains id=(id==j || us.contains id):=List.contains_cons
theorem aou{t ts x xs}:rE P (t::ts) (x::xs)=typed P t x::rE P ts xs:=rfl
theorem aGi{ts}:rE P ts []=[]:=by cases ts <;> rfl
theorem amH{x:AV}:Go.Av.one [x]=x:=rfl
theorem ah2:Go.Av.one []= .tuple []:=rfl
theorem adC{x y:AV}{l}:Go.Av.one (x::y::l)= .tuple (x::y::l):=rfl
theorem Hm{t x}(h1: ∀ xs,x≠ .agg xs)(h2:x≠ .v (.slice none 0 0)):typed P t x=x:=by
  unfold typed
  split
  · exact absurd rfl (h1 _)
  · split
    · rename_i y hy
      unfold dM at hy
      split at hy
      · rename_i hq _;injection hq with hq;exact absurd hq h2
      · rename_i hq _;injection hq with hq hq2;subst hq2;subst hq
        simp at hy;rcases hy with hy|hy <;> first|exact hy.symm|simp_all
      · rename_i hq _;injection hy with hy;exact hy.symm
      · cases hy
    · rfl
theorem aK5{t k z}:typed P t (.v (.int k z))= .v (.int k z):=Hm (λ_ h=>by cases h) (λh=>by cases h)
theorem aCv{t z}:typed P t (.v (.bool z))= .v (.bool z):=Hm (λ_ h=>by cases h) (λh=>by cases h)
theorem aCD{t z}:typed P t (.v (.string z))= .v (.string z):=Hm (λ_ h=>by cases h) (λh=>by cases h)
theorem aL0{t m xs}:typed P t (.arr m xs)= .arr m xs:=Hm (λ_ h=>by cases h) (λh=>by cases h)
theorem aD8{t m s xs}:typed P t (.fresh s m xs)= .fresh s m xs:=Hm (λ_ h=>by cases h) (λh=>by cases h)
theorem Dv{t s}(h:kU P 4 t=[s+1]):typed P t (.v (.slice none 0 0))= .fresh s 0 []:=by simp[typed,h,dM]
theorem Gu{t xs ss}(h:kU P 4 t=ss):typed P t (.agg xs)= .agg (dM xs ss):=by simp[typed,h]
theorem asJ{ss}:dM [] ss=[]:=by cases ss <;> rfl
theorem aA6{xs}:dM xs []=xs:=by
  cases xs with
  |nil=>rfl
  | cons x xs=>
    unfold dM
    split
    · rename_i h1 h2;cases h2
    · rename_i h1 h2;cases h2
    · rfl
    · rename_i h1 h2 h3;exact absurd rfl h3
theorem avo{k z s xs ss}:dM (.v (.int k z)::xs) (s::ss)= .v (.int k z)::dM xs ss:=by simp[dM]
theorem aBa{z s xs ss}:dM (.v (.bool z)::xs) (s::ss)= .v (.bool z)::dM xs ss:=by simp[dM]
theorem aLV{z s xs ss}:dM (.v (.string z)::xs) (s::ss)= .v (.string z)::dM xs ss:=by simp[dM]
theorem azw{m ys s xs ss}:dM (.arr m ys::xs) (s::ss)= .arr m ys::dM xs ss:=by simp[dM]
theorem aHL{m w ys s xs ss}:dM (.fresh w m ys::xs) (s::ss)= .fresh w m ys::dM xs ss:=by simp[dM]
theorem azx{s xs ss}:dM (.v (.slice none 0 0)::xs) ((s+1)::ss)= .fresh s 0 []::dM xs ss:=rfl
def bf(caps:List AV):Prop:=(∀ g:Id->Option ax,aV (aG g 4) caps=some caps/\aV (aG g 3) caps=some caps/\(caps.map (aO g 4)).flatten=[]/\(caps.map (aO g 3)).flatten=[])/\ ∀ id,caps.any (names id 3)=false
theorem bf.nil:bf []:=⟨λ_=>⟨rfl,rfl,rfl,rfl⟩,λ_=>rfl⟩
theorem bf.aF{xs:List AV}{o:Nat}{l:List AV}(hl:bf l):bf (.aF xs o::l):=
  ⟨λg=>⟨by simp only[GR,U1,ob_some,(hl.1 g).1],by simp only[GR,U1,ob_some,(hl.1 g).2.1],by simp[XY,(hl.1 g).2.2.1],by simp[XY,(hl.1 g).2.2.2]⟩,λid=>by simp[adF,hl.2 id]⟩
section
variable {caps:List AV} (hc:bf caps)
include hc
theorem bf.e4:aV (aG g 4) caps=some caps:=(hc.1 g).1
theorem bf.e3:aV (aG g 3) caps=some caps:=(hc.1 g).2.1
theorem bf.b4:(caps.map (aO g 4)).flatten=[]:=(hc.1 g).2.2.1
theorem bf.b3:(caps.map (aO g 3)).flatten=[]:=(hc.1 g).2.2.2
end
def jg{α β:Type}(f:α->β):Prop:= ∀ a b,f a=f b->a=b
open Classical in
noncomputable def gV{α β:Type}(ea:α→List AV)(F:α→Option β)(eb:β→AV):List AV→Option AV:=fun args=>
  if h: ∃ a,ea a=args then(F (Classical.choose h)).map eb else none
theorem jv{α β:Type}{ea:α→List AV}{F:α→Option β}{eb:β→AV}(hi:jg ea){a:α}{b:β}(hb:F a=some b):gV ea F eb (ea a)=some (eb b):=by
  unfold gV
  have hx: ∃ x,ea x=ea a:=⟨a,rfl⟩
  rw[dif_pos hx]
  have:=hi _ _ (Classical.choose_spec hx)
  rw[this,hb]
  rfl
theorem aHm{α β:Type}{ea:α→List AV}{F:α→Option β}{eb:β→AV}{args:List AV}{r:AV}(h:gV ea F eb args=some r): ∃ a b,ea a=args∧F a=some b∧r=eb b:=by
  unfold gV at h
  split at h
  · rename_i hx
    cases hF:F (Classical.choose hx)with
    |none=>rw[hF]at h;cases h
    | some b=>
      rw[hF]at h
      injection h with h
      exact⟨_,b,Classical.choose_spec hx,hF,h.symm⟩
  · cases h
theorem BQ{α β:Type}{ea:α→List AV}{F:α→Option β}{eb:β→AV}{args:List AV}(h: ∀ a,ea a≠args):gV ea F eb args=none:=by
  unfold gV
  rw[dif_neg (λ⟨a,ha⟩=>h a ha)]
noncomputable def gm(f:FuncId)(c:List AV->Option AV)(cp:af):af:=λg args=>if g=f then(match c args with|some r=>some r|none=>cp g args)else cp g args
theorem jD{f:FuncId}{c:List AV→Option AV}(hcp:aJ P cp)(hc: ∀ args r,c args=some r→aA P f args r):aJ P (gm f c cp):=fun g args r h=>by
  unfold gm at h
  split at h
  · rename_i hg;subst hg
    split at h
    · rename_i hh;injection h with h;subst h;exact hc args _ hh
    · exact hcp g args r h
  · exact hcp g args r h
theorem jo{f:FuncId}{c:List AV->Option AV}{args r}(h:c args=some r):gm f c cp f args=some r:=by simp[gm,h]
theorem Kt{f:FuncId}{c:List AV->Option AV}{args r}(hn:c args=none)(h:cp f args=some r):gm f c cp f args=some r:=by simp[gm,hn,h]
theorem MS{f g:FuncId}{c:List AV→Option AV}{args r}(hn:g=f→c args=none)(h:cp g args=some r):gm f c cp g args=some r:=by
  unfold gm
  by_cases hg:g=f
  · rw[if_pos hg,hn hg];exact h
  · rw[if_neg hg];exact h
theorem xJ{f g:FuncId}{c:List AV->Option AV}{args r}(hn: ¬ g=f)(h:cp g args=some r):gm f c cp g args=some r:=by simp[gm,hn,h]
theorem jE{α β:Type}{f:FuncId}{ea:α→List AV}{F:α→Option β}{eb:β→AV}(h: ∀ a b,F a=some b→aA P f (ea a) (eb b)): ∀ args r,gV ea F eb args=some r→aA P f args r:=fun args r hr=>by
  obtain⟨a,b,rfl,hb,rfl⟩:=aHm hr
  exact h a b hb
theorem aiT{k:IntKind}:jg (ik k):=λa b h=>by injection h with h;injection h
theorem arl:jg bk:=λa b h=>by injection h with h;injection h
theorem afk{α β:Type}{f:α→β}(hf:jg f): ∀ a b:List α,a.map f=b.map f→a=b
  |[],[],_=>rfl
  |[],_::_,h=>by cases h
  |_::_,[],h=>by cases h
  | x::a,y::b,h=>by
    rw[List.map_cons,List.map_cons]at h
    injection h with h1 h2
    rw[hf _ _ h1,afk hf a b h2]
theorem IE{f:α->AV}(hf:jg f):jg (lm f):=λa b h=>afk hf a b h
theorem bD{c:α→List AV}{w:Nat}(hw: ∀ x,(c x).length=w)(h0:0<w)(hc:jg c):jg (fm c):=fun a=>by
  induction a with
  | nil=>
    intro b h
    cases b with
    |nil=>rfl
    | cons y b=>
      have:=congrArg List.length h
      rw[Ec hw,Ec hw,List.length_nil,List.length_cons,Nat.succ_mul]at this
      omega
  | cons x a ih=>
    intro b h
    cases b with
    | nil=>
      have:=congrArg List.length h
      rw[Ec hw,Ec hw,List.length_nil,List.length_cons,Nat.succ_mul]at this
      omega
    | cons y b=>
      rw[MK,MK]at h
      obtain⟨h1,h2⟩:=List.append_inj h (by rw[hw,hw])
      rw[hc _ _ h1,ih _ h2]
theorem as9{f:α->AV}(hf:jg f):jg (jh f):=λa b h=>by injection h with _ h;exact IE hf a b h
theorem fH{c:α->List AV}(hf:jg (fm c)):jg (Ed c):=λa b h=>by injection h with _ h;exact hf a b h
theorem aAq{k:IntKind}{a b:List Int}:lm (ik k) a=lm (ik k) b ↔ a=b:=⟨IE aiT a b,λh=>by rw[h]⟩
theorem ara{a b:List Bool}:lm bk a=lm bk b ↔ a=b:=⟨IE arl a b,λh=>by rw[h]⟩
theorem ati{k:IntKind}{a b:List (List Int)}:lm (jh (ik k)) a=lm (jh (ik k)) b ↔ a=b:=⟨IE (as9 aiT) a b,λh=>by rw[h]⟩
end
theorem fG{α:Type}{f:α->AV}(hf:jg f){a b:List α}:lm f a=lm f b ↔ a=b:=⟨IE hf a b,λh=>by rw[h]⟩
theorem fC{α:Type}{c:α->List AV}(hf:jg (fm c)){a b:List α}:fm c a=fm c b ↔ a=b:=⟨hf a b,λh=>by rw[h]⟩
theorem fE{α:Type}{c:α->List AV}(hf:jg c){a b:α}:c a=c b ↔ a=b:=⟨hf a b,λh=>by rw[h]⟩
def gB:=And.intro @List.cons.injEq.{0}<|And.intro @AV.arr.injEq<|And.intro @AV.v.injEq<|And.intro @Value.int.injEq<|And.intro @Value.bool.injEq<|And.intro @Value.string.injEq<|And.intro @AV.agg.injEq<|And.intro @AV.aF.injEq<|And.intro @AV.fn.injEq<|
  And.intro @aAq<|And.intro @ara<|And.intro @ati<|And.intro @and_true<| @true_and
section
variable {P:Program}
theorem Z9{t el:TypeId}{by_:Nat}{a b:Int}{k k' kk:IntKind}(htv:aP P t=some (.slice el 1 by_))(hz:dG P el=some [.v (.int kk 0)])
   (h0:0<=a) (h1:a<=b) (h2:b<=140737488355328) (h3:b*by_<=140737488355328):uJ P t (.v (.int k a)) (.v (.int k' b))=some (.fresh 1 a.toNat (lm (ik kk) (List.replicate a.toNat 0))):=by
  rw[alZ htv hz rfl h0 h1 h2 h3,amz,← aj3,akn]
theorem awm{t el:TypeId}{by_:Nat}{a b:Int}{k k':IntKind}(htv:aP P t=some (.slice el 1 by_))(hz:dG P el=some [.v (.bool false)])
   (h0:0<=a) (h1:a<=b) (h2:b<=140737488355328) (h3:b*by_<=140737488355328):uJ P t (.v (.int k a)) (.v (.int k' b))=some (.fresh 1 a.toNat (lm bk (List.replicate a.toNat false))):=by
  rw[alZ htv hz rfl h0 h1 h2 h3,amz,← agw,akn]
end
section
variable {P:Program}
theorem yD{op:BinOp}{t el:TypeId}{sz by_:Nat}{a m c c' m'}(ht:aP P t=some (.slice el sz by_)):nU P op t (.v (.slice a m c)) (.v (.slice none m' c'))=zN op a.isNone:=by simp[nU,ht]
theorem aI0{op:BinOp}{t el:TypeId}{sz by_:Nat}{m c' m' xs}(ht:aP P t=some (.slice el sz by_))(hm:m≠0):nU P op t (.arr m xs) (.v (.slice none m' c'))=zN op false:=by simp[nU,ht,hm]
theorem aph{b:Bool}:zN .eql b=some (.v (.bool b)):=rfl
theorem asY:(none:Option Addr).isNone=true:=rfl
theorem aJI{a:Addr}:(some a).isNone=false:=rfl
theorem axm{g:Id->Option ax}{a c}:kT g (.v (.slice a 0 c))=some (0,[]):=rfl
theorem awK{g:Id->Option ax}{x}:inner g (.v x)=[]:=rfl
theorem aA.ed{f:FuncId}{r:AV}(h: ∀ a c,aA P f [.v (.slice a 0 c)] r):aA P f [.arr 0 []] r:=by
  refine⟨(h none 0).1,λw F us hF hl hx=> ?_⟩
  match us,hl with
  | [u],_=>
    have hv:=hx 0 (.arr 0 []) u rfl rfl
    have: ∃ a c,u= .slice a 0 c:=by
      cases hv with
      | @ed a c=>exact⟨a,c,rfl⟩
      | @arr _ _ b o c us=>exact⟨_,c,rfl⟩
    obtain⟨a,c,rfl⟩:=this
    refine(h a c).2 w F [.slice a 0 c] hF rfl λi x u hi hu=> ?_
    cases i with
    |zero=>simp at hi hu;subst hi hu;exact .v
    |succ i=>simp at hi
end
section
variable {h:Heap} {lvl d by_:Nat} {id:Id} {n m:Nat} {α:Type} {f:α->AV}
theorem aze{l b:List α}(hm:m=b.length)(h3:n+m≤140737488355328)(h4:(n+m)*by_≤140737488355328)(h5:(lm f b).all AV.one=true):
    lU lvl d 1 by_ h m (lm f b) id n n (.sl true true 1 n (lm f l))=some (.own id 0 (n+m) (n+m),h.set id (.sl true true 1 (n+m) (lm f (l++b)))):=by
  rw[Af (by rw[TI,hm,Nat.mul_one]) h3 h4 h5,ad7]
theorem Y0{l:List α}{x:α}(h3:n+1≤140737488355328)(h4:(n+1)*by_≤140737488355328)(h5:AV.one (f x)=true):
    lU lvl d 1 by_ h 1 [f x] id n n (.sl true true 1 n (lm f l))=some (.own id 0 (n+1) (n+1),h.set id (.sl true true 1 (n+1) (lm f (l++[x])))):=by
  rw[Af (by rfl) h3 h4 (by simp[h5]),ad7];rfl
theorem arK{l:List Int}{x:Int}{k:IntKind}(h3:n+1≤140737488355328)(h4:(n+1)*by_≤140737488355328):
    lU lvl d 1 by_ h 1 [.v (.int k x)] id n n (.sl true true 1 n (lm (ik k) l))=some (.own id 0 (n+1) (n+1),h.set id (.sl true true 1 (n+1) (lm (ik k) (l++[x])))):=Y0 (f:=ik k) h3 h4 rfl
theorem aqV{l:List Bool}{x:Bool}(h3:n+1≤140737488355328)(h4:(n+1)*by_≤140737488355328):
    lU lvl d 1 by_ h 1 [.v (.bool x)] id n n (.sl true true 1 n (lm bk l))=some (.own id 0 (n+1) (n+1),h.set id (.sl true true 1 (n+1) (lm bk (l++[x])))):=Y0 (f:=bk) h3 h4 rfl
theorem aI5{l:List (List α)}{x:List α}(h3:n+1≤140737488355328)(h4:(n+1)*by_≤140737488355328):
    lU lvl d 1 by_ h 1 [.arr x.length (lm f x)] id n n (.sl true true 1 n (lm (jh f) l))=some (.own id 0 (n+1) (n+1),h.set id (.sl true true 1 (n+1) (lm (jh f) (l++[x])))):=Y0 (f:=jh f) h3 h4 rfl
theorem akE{c:α→List AV}{w:Nat}(hw: ∀ x,(c x).length=w){l b:List α}(hm:m=b.length)(h3:n+m≤140737488355328)(h4:(n+m)*by_≤140737488355328)(h5:(fm c b).all AV.one=true):
    lU lvl d w by_ h m (fm c b) id n n (.sl true true w n (fm c l))=some (.own id 0 (n+m) (n+m),h.set id (.sl true true w (n+m) (fm c (l++b)))):=by
  rw[Af (by rw[Ec hw,hm]) h3 h4 h5,MC]
end
def xY(a b:Int):Int:=if b<a then b else a
def gu(a b:Int):Int:=if b>a then b else a
section
variable {P:Program} {C:bn} {cp:af} {ci:bg} {lvl:Nat} {e:Env} {h:Heap}
theorem aDY{ts k a b}:jJ P .max ts [.v (.int k a),.v (.int k b)]=some (.v (.int k (gu a b))):=by simp[jJ,gu]
theorem aEc{ts k a b}:jJ P .min ts [.v (.int k a),.v (.int k b)]=some (.v (.int k (xY a b))):=by simp[jJ,xY]
theorem avM{d:Option Tmp}{x y:Operand}{ts}:bW P C cp ci lvl e h d (.call ⟨.builtin .min,⟨[x,y]⟩,ts⟩)=qo lvl (d.getD 0) h ((az e.get x).bind fun a=>(az e.get y).bind fun b=>jJ P .min ts [a,b]):=by
  rw[jI (λ_ _ _ h=>by cases h) rfl]
  simp only[aq,aV]
  cases az e.get x <;> cases az e.get y <;> rfl
end
theorem aDo{P:Program}{t el:TypeId}{sz by_:Nat}{x:AV}(htv:aP P t=some (.slice el sz by_)):jJ P .len #[t] [x]=(zq x).bind fun n=>some (.v (.int .i64 n)):=by
  have h0:(#[t])[0]? =some t:=rfl
  simp only[jJ,h0,ob_some,htv]
theorem aGI{lvl d esz by_ m:Nat}{h:Heap}{id:Id}{ys:List AV}(h2:ys.length=m*esz)(h3:m≤140737488355328)(h4:m*by_≤140737488355328)(h5:ys.all AV.one=true):
    lU lvl d esz by_ h m ys id 0 0 (.sl true true esz 0 [])=some (.own id 0 m m,h.set id (.sl true true esz m ys)):=by
  rw[Af h2 (by omega) (by rw[Nat.zero_add];exact h4) h5,Nat.zero_add,List.nil_append]
theorem au3{lvl d esz by_ m n:Nat}{h:Heap}{id:Id}{ys cs:List AV}{c:AV}(h2:ys.length=m*esz)(h3:n+m≤140737488355328)(h4:(n+m)*by_≤140737488355328)(h5:ys.all AV.one=true):
    lU lvl d esz by_ h m ys id n n (.sl true true esz n (c::cs))=some (.own id 0 (n+m) (n+m),h.set id (.sl true true esz (n+m) (c::cs++ys))):=Af h2 h3 h4 h5
def RM:=And.intro @aGI<|And.intro @au3<|And.intro @aph<|And.intro @asY<|And.intro @aJI<|And.intro @axm<|And.intro @awK<|And.intro @arK<|And.intro @aqV<|And.intro @aI5<|And.intro @aze<|And.intro @aDY<|And.intro @aEc<|And.intro @avM<| @aBC
def RO:=And.intro @Lj<|And.intro @Qz<|And.intro @afZ<|And.intro @amy<|And.intro @acG<|And.intro @agW<|And.intro @amd<|And.intro @aev<|And.intro @aed<|And.intro @ajK<|And.intro @aec<|And.intro @ajT<|And.intro @acL<|And.intro @ae1<|And.intro @aep<|And.intro @Bool.and_self<| @Bool.and_true
def cpL{α:Type}(l s:List α):List α:=(s++l.drop s.length).take l.length
theorem aDQ{α:Type}{l s:List α}:(cpL l s).length=l.length:=by simp[cpL];omega
def LN:=And.intro @aDQ<|And.intro @List.length_set.{0}<|And.intro @List.length_replicate.{0}<|And.intro @List.length_append.{0}<|And.intro @List.length_cons.{0}<|And.intro @List.length_nil.{0}<|And.intro @TI<|And.intro @Nat.zero_add<| @Int.toNat_natCast
def FF:=And.intro @apB<|And.intro @az5<|And.intro @adh<|And.intro @amQ<|And.intro @aMD<|And.intro @aHc<|And.intro @aEP<|And.intro @ayO<|And.intro @azt<|And.intro @apc<|And.intro @aog<|And.intro @aK1<|
  And.intro @aJP<|And.intro @aox<|And.intro @aF1<|And.intro @avh<|And.intro @azU<|And.intro @ao4<|And.intro @aJn<|And.intro @aH6<|And.intro @aJK<|And.intro @aty<|And.intro @aou<|And.intro @aGi<|
  And.intro @amH<|And.intro @ah2<|And.intro @adC<|And.intro @aK5<|And.intro @aCv<|And.intro @aCD<|And.intro @aL0<|And.intro @aD8<|And.intro @asJ<|And.intro @aA6<|And.intro @avo<|And.intro @aBa<|
  And.intro @aLV<|And.intro @azw<|And.intro @aHL<| @azx
theorem azh{α:Type}{f:α->AV}{l:List α}:jh f l= .arr l.length (lm f l):=rfl
theorem axJ{α:Type}{c:α->List AV}{l:List α}:Ed c l= .arr l.length (fm c l):=rfl
def NN:=And.intro @azh<|And.intro @axJ<|And.intro @anu<|And.intro @aDf<|And.intro @aj3<|And.intro @agw<|And.intro @aFe<|And.intro @MK<|And.intro @List.length_cons.{0}<|And.intro @List.length_nil.{0}<|And.intro @List.cons_append.{0}<|And.intro @List.nil_append.{0}<| @frl.eq_1
end Go.Av
