/- Results; contracts as tables; what closures hold. Conditions: those that each names. -/
import Derived.Test.YtiagecndhhinfaaGreatMp
set_option linter.unusedVariables false
set_option linter.defProp false
namespace Go.Av
section
variable {P:Program} {C:bG} {cp:aC} {ci:bz} {lvl n:Nat} {e:Env} {h:Heap} {g:Id->Option ak} {us:List Id} {α:Type}
def ZY(P:Program)(ts:List TypeId)(h:Heap)(rs:List AV):Option AV:=
  (fE (fQ (dV h ((rs.map (kZ h.get 4)).flatten)).get 4) rs []).bind λr=>some (one (rU P ts r.1))
theorem am4{rs ts}:wW P ⟨.skip,rs,ts⟩ e h=(aZ (mf P e h) rs).bind (ZY P ts h):=rfl
theorem am1{ts rs}:ZY P ts h rs=(fE (fQ (dV h ((rs.map (kZ h.get 4)).flatten)).get 4) rs []).bind λr=>some (one (rU P ts r.1)):=rfl
theorem ac5{t}:mf P e h (.tmp t)=e.get t:=rfl
theorem ac4{t ty}:mf P e h (.cell t ty)=(e.get t).bind λp=>pz P h.get ty p:=rfl
theorem azX{d x}:kZ g d (.v x)=[]:=by cases d <;> rfl
theorem azS{d m xs}:kZ g d (.arr m xs)=[]:=by cases d <;> rfl
theorem azV{d o xs}:kZ g d (.ay xs o)=[]:=by cases d <;> rfl
theorem azT{d k}:kZ g d (.fn k [] [])=[]:=by cases d <;> rfl
def NE(g:Id→Option ak)(d:Nat)(id:Id)(off n ext:Nat):Option ak→List Id
  |some (.sl false _ _ _ _)=>aW g (d+1) (.own id off n ext)
  |_=>[]
theorem azU{d:Nat}{id:Id}{off m ext:Nat}:kZ g (d+1) (.own id off m ext)=NE g d id off m ext (g id):=by
  have: ∀ b,g id=b→kZ g (d+1) (.own id off m ext)=NE g d id off m ext b:=fun b hb=>by
    unfold kZ
    rw[hb]
    rfl
  exact this _ rfl
theorem azP{d id off m ext r s x c}:NE g d id off m ext (some (.sl true r s x c))=[]:=rfl
theorem azR{d xs}:kZ g (d+1) (.agg xs)=(xs.map (kZ g d)).flatten:=rfl
theorem azW{d xs}:kZ g (d+1) (.tuple xs)=(xs.map (kZ g d)).flatten:=rfl
theorem amu{d x}:fQ g d (.v x) us=some (.v x,us):=by cases d <;> rfl
theorem amn{d m xs}:fQ g d (.arr m xs) us=some (.arr m xs,us):=by cases d <;> rfl
theorem amr{d o xs}:fQ g d (.ay xs o) us=some (.ay xs o,us):=by cases d <;> rfl
def Bh (g :Id→Option ak)(d:Nat)(id:Id)(off n ext:Nat)(us:List Id):ak→Option (AV×List Id)
  | .sl true true sz e cells=>if e=ext/\off=0/\n<=e/\us.contains id=false then some (.fresh sz n (cut cells off n sz e),id::us)else none
  | .sl true false sz e cells=>if e=ext then some (.arr n (cut cells off n sz e),us)else none
  | .sl false false sz e cells=>match d with
    |0=>none
    | d + 1 =>if e=ext∧((cells.map (aW g d)).flatten).all (qY g)=true then
            (cells.mapM (aG g d)).bind λcs=>some (.arr n (cut cs off n sz e),us)else none
  |_=>none
theorem amq{d:Nat}{id:Id}{off m ext:Nat}:fQ g d (.own id off m ext) us=(g id).bind (Bh g d id off m ext us):=by
  cases d with
  | zero=>
    simp only[fQ]
    cases g id with
    |none=>rfl
    | some b=>cases b with
      |bx=>rfl
      |sl cl rw=>cases cl <;> cases rw <;> rfl
  | succ d=>
    simp only[fQ]
    cases g id with
    |none=>rfl
    | some b=>cases b with
      |bx=>rfl
      |sl cl rw=>cases cl <;> cases rw <;> rfl
theorem amk{d id m ext sz cells}(h1:m=ext)(hu:us.contains id=false):Bh g d id 0 m ext us (.sl true true sz ext cells)=some (.fresh sz m cells,id::us):=by
  subst h1;simp only[Bh,cut,hu];simp
theorem amj{d id off m ext sz cells}:Bh g d id off m ext us (.sl true false sz ext cells)=some (.arr m (cut cells off m sz ext),us):=by simp[Bh]
theorem amm{d xs}:fQ g (d+1) (.agg xs) us=(fE (fQ g d) xs us).bind λr=>some (.agg r.1,r.2):=rfl
theorem ams{d xs}:fQ g (d+1) (.tuple xs) us=(fE (fQ g d) xs us).bind λr=>some (.tuple r.1,r.2):=rfl
theorem alh{id:Id}:([]:List Id).contains id=false:=rfl
theorem alg{id j:Id}:(j::us).contains id=(id==j || us.contains id):=List.contains_cons
theorem az1{t ts x xs}:rU P (t::ts) (x::xs)=typed P t x::rU P ts xs:=rfl
theorem az2{ts}:rU P ts []=[]:=by cases ts <;> rfl
theorem abo{x:AV}:Go.Av.one [x]=x:=rfl
theorem abn:Go.Av.one []= .tuple []:=rfl
theorem abp{x y:AV}{l}:Go.Av.one (x::y::l)= .tuple (x::y::l):=rfl
theorem FP{t x}(h1: ∀ xs,x≠ .agg xs)(h2:x≠ .v (.slice none 0 0)):typed P t x=x:=by
  unfold typed
  split
  · exact absurd rfl (h1 _)
  · split
    · rename_i y hy
      unfold fO at hy
      split at hy
      · rename_i hq _;injection hq with hq;exact absurd hq h2
      · rename_i hq _;injection hq with hq hq2;subst hq2;subst hq
        simp at hy;rcases hy with hy|hy <;> first|exact hy.symm|simp_all
      · rename_i hq _;injection hy with hy;exact hy.symm
      · cases hy
    · rfl
theorem aAs{t k z}:typed P t (.v (.int k z))= .v (.int k z):=FP (λ_ h=>by cases h) (λh=>by cases h)
theorem aAq{t z}:typed P t (.v (.bool z))= .v (.bool z):=FP (λ_ h=>by cases h) (λh=>by cases h)
theorem aAt{t z}:typed P t (.v (.string z))= .v (.string z):=FP (λ_ h=>by cases h) (λh=>by cases h)
theorem aAp{t m xs}:typed P t (.arr m xs)= .arr m xs:=FP (λ_ h=>by cases h) (λh=>by cases h)
theorem aAr{t m s xs}:typed P t (.fresh s m xs)= .fresh s m xs:=FP (λ_ h=>by cases h) (λh=>by cases h)
theorem zW{t s}(h:mQ P 4 t=[s+1]):typed P t (.v (.slice none 0 0))= .fresh s 0 []:=by simp[typed,h,fO]
theorem UX{t xs ss}(h:mQ P 4 t=ss):typed P t (.agg xs)= .agg (fO xs ss):=by simp[typed,h]
theorem ave{ss}:fO [] ss=[]:=by cases ss <;> rfl
theorem avb{xs}:fO xs []=xs:=by
  cases xs with
  |nil=>rfl
  | cons x xs=>
    unfold fO
    split
    · rename_i h1 h2;cases h2
    · rename_i h1 h2;cases h2
    · rfl
    · rename_i h1 h2 h3;exact absurd rfl h3
theorem avd{k z s xs ss}:fO (.v (.int k z)::xs) (s::ss)= .v (.int k z)::fO xs ss:=by simp[fO]
theorem ava{z s xs ss}:fO (.v (.bool z)::xs) (s::ss)= .v (.bool z)::fO xs ss:=by simp[fO]
theorem avh{z s xs ss}:fO (.v (.string z)::xs) (s::ss)= .v (.string z)::fO xs ss:=by simp[fO]
theorem au9{m ys s xs ss}:fO (.arr m ys::xs) (s::ss)= .arr m ys::fO xs ss:=by simp[fO]
theorem avc{m w ys s xs ss}:fO (.fresh w m ys::xs) (s::ss)= .fresh w m ys::fO xs ss:=by simp[fO]
theorem avg{s xs ss}:fO (.v (.slice none 0 0)::xs) ((s+1)::ss)= .fresh s 0 []::fO xs ss:=rfl
def bK(caps:List AV):Prop:=(∀ g:Id->Option ak,aZ (aG g 4) caps=some caps/\aZ (aG g 3) caps=some caps/\(caps.map (aW g 4)).flatten=[]/\(caps.map (aW g 3)).flatten=[])/\ ∀ id,caps.any (names id 3)=false
theorem bK.nil:bK []:=⟨λ_=>⟨rfl,rfl,rfl,rfl⟩,λ_=>rfl⟩
theorem bK.ay{xs:List AV}{o:Nat}{l:List AV}(hl:bK l):bK (.ay xs o::l):=
  ⟨λg=>⟨by simp only[Ud,Rq,ai,(hl.1 g).1],by simp only[Ud,Rq,ai,(hl.1 g).2.1],by simp[PN,(hl.1 g).2.2.1],by simp[PN,(hl.1 g).2.2.2]⟩,λid=>by simp[abb,hl.2 id]⟩
section
variable {caps:List AV} (hc:bK caps)
include hc
theorem bK.e4:aZ (aG g 4) caps=some caps:=(hc.1 g).1
theorem bK.e3:aZ (aG g 3) caps=some caps:=(hc.1 g).2.1
theorem bK.b4:(caps.map (aW g 4)).flatten=[]:=(hc.1 g).2.2.1
theorem bK.b3:(caps.map (aW g 3)).flatten=[]:=(hc.1 g).2.2.2
theorem bK.nm{id}:caps.any (names id 3)=false:=hc.2 id
end
def jZ{α β:Type}(f:α->β):Prop:= ∀ a b,f a=f b->a=b
open Classical in
noncomputable def iU{α β:Type}(ea:α→List AV)(F:α→Option β)(eb:β→AV):List AV→Option AV:=fun args=>
  if h: ∃ a,ea a=args then(F (Classical.choose h)).map eb else none
theorem jK{α β:Type}{ea:α→List AV}{F:α→Option β}{eb:β→AV}(hi:jZ ea){a:α}{b:β}(hb:F a=some b):iU ea F eb (ea a)=some (eb b):=by
  unfold iU
  have hx: ∃ x,ea x=ea a:=⟨a,rfl⟩
  rw[dif_pos hx]
  have:=hi _ _ (Classical.choose_spec hx)
  rw[this,hb]
  rfl
theorem aus{α β:Type}{ea:α→List AV}{F:α→Option β}{eb:β→AV}{args:List AV}{r:AV}(h:iU ea F eb args=some r): ∃ a b,ea a=args∧F a=some b∧r=eb b:=by
  unfold iU at h
  split at h
  · rename_i hx
    cases hF:F (Classical.choose hx)with
    |none=>rw[hF]at h;cases h
    | some b=>
      rw[hF]at h
      injection h with h
      exact⟨_,b,Classical.choose_spec hx,hF,h.symm⟩
  · cases h
theorem zt{α β:Type}{ea:α→List AV}{F:α→Option β}{eb:β→AV}{args:List AV}(h: ∀ a,ea a≠args):iU ea F eb args=none:=by
  unfold iU
  rw[dif_neg (λ⟨a,ha⟩=>h a ha)]
noncomputable def iI(f:FuncId)(c:List AV->Option AV)(cp:aC):aC:=λg args=>if g=f then(match c args with|some r=>some r|none=>cp g args)else cp g args
theorem jO{f:FuncId}{c:List AV→Option AV}(hcp:aK P cp)(hc: ∀ args r,c args=some r→bH P f args r):aK P (iI f c cp):=fun g args r h=>by
  unfold iI at h
  split at h
  · rename_i hg;subst hg
    split at h
    · rename_i hh;injection h with h;subst h;exact hc args _ hh
    · exact hcp g args r h
  · exact hcp g args r h
theorem jM{f:FuncId}{c:List AV->Option AV}{args r}(h:c args=some r):iI f c cp f args=some r:=by simp[iI,h]
theorem MG{f:FuncId}{c:List AV->Option AV}{args r}(hn:c args=none)(h:cp f args=some r):iI f c cp f args=some r:=by simp[iI,hn,h]
theorem EX{f g:FuncId}{c:List AV→Option AV}{args r}(hn:g=f→c args=none)(h:cp g args=some r):iI f c cp g args=some r:=by
  unfold iI
  by_cases hg:g=f
  · rw[if_pos hg,hn hg];exact h
  · rw[if_neg hg];exact h
theorem uz{f g:FuncId}{c:List AV->Option AV}{args r}(hn: ¬ g=f)(h:cp g args=some r):iI f c cp g args=some r:=by simp[iI,hn,h]
theorem jL{α β:Type}{f:FuncId}{ea:α→List AV}{F:α→Option β}{eb:β→AV}(h: ∀ a b,F a=some b→bH P f (ea a) (eb b)): ∀ args r,iU ea F eb args=some r→bH P f args r:=fun args r hr=>by
  obtain⟨a,b,rfl,hb,rfl⟩:=aus hr
  exact h a b hb
theorem aaF{k:IntKind}:jZ (ik k):=λa b h=>by injection h with h;injection h
theorem aaE:jZ bk:=λa b h=>by injection h with h;injection h
theorem aaG{α β:Type}{f:α→β}(hf:jZ f): ∀ a b:List α,a.map f=b.map f→a=b
  |[],[],_=>rfl
  |[],_::_,h=>by cases h
  |_::_,[],h=>by cases h
  | x::a,y::b,h=>by
    rw[List.map_cons,List.map_cons]at h
    injection h with h1 h2
    rw[hf _ _ h1,aaG hf a b h2]
theorem Ew{f:α->AV}(hf:jZ f):jZ (lm f):=λa b h=>aaG hf a b h
theorem fC{c:α→List AV}{w:Nat}(hw: ∀ x,(c x).length=w)(h0:0<w)(hc:jZ c):jZ (fm c):=fun a=>by
  induction a with
  | nil=>
    intro b h
    cases b with
    |nil=>rfl
    | cons y b=>
      have:=congrArg List.length h
      rw[Bo hw,Bo hw,List.length_nil,List.length_cons,Nat.succ_mul]at this
      omega
  | cons x a ih=>
    intro b h
    cases b with
    | nil=>
      have:=congrArg List.length h
      rw[Bo hw,Bo hw,List.length_nil,List.length_cons,Nat.succ_mul]at this
      omega
    | cons y b=>
      rw[Ef,Ef]at h
      obtain⟨h1,h2⟩:=List.append_inj h (by rw[hw,hw])
      rw[hc _ _ h1,ih _ h2]
theorem aaD{f:α->AV}(hf:jZ f):jZ (eP f):=λa b h=>by injection h with _ h;exact Ew hf a b h
theorem kU{c:α->List AV}(hf:jZ (fm c)):jZ (AB c):=λa b h=>by injection h with _ h;exact hf a b h
theorem atW{k:IntKind}{a b:List Int}:lm (ik k) a=lm (ik k) b ↔ a=b:=⟨Ew aaF a b,λh=>by rw[h]⟩
theorem atU{a b:List Bool}:lm bk a=lm bk b ↔ a=b:=⟨Ew aaE a b,λh=>by rw[h]⟩
theorem atQ{k:IntKind}{a b:List (List Int)}:lm (eP (ik k)) a=lm (eP (ik k)) b ↔ a=b:=⟨Ew (aaD aaF) a b,λh=>by rw[h]⟩
end
theorem kE{α:Type}{f:α->AV}(hf:jZ f){a b:List α}:lm f a=lm f b ↔ a=b:=⟨Ew hf a b,λh=>by rw[h]⟩
theorem kN{α:Type}{c:α->List AV}(hf:jZ (fm c)){a b:List α}:fm c a=fm c b ↔ a=b:=⟨hf a b,λh=>by rw[h]⟩
theorem kM{α:Type}{c:α->List AV}(hf:jZ c){a b:α}:c a=c b ↔ a=b:=⟨hf a b,λh=>by rw[h]⟩
def iY:=af @List.cons.injEq.{0}<|af @AV.arr.injEq<|af @AV.v.injEq<|af @Value.int.injEq<|af @Value.bool.injEq<|af @Value.string.injEq<|af @AV.agg.injEq<|af @AV.ay.injEq<|af @AV.fn.injEq<|
  af @atW<|af @atU<|af @atQ<|af @and_true<| @true_and
section
variable {P:Program}
theorem TL{t el:TypeId}{by_:Nat}{a b:Int}{k k' kk:IntKind}(htv:aX P t=some (.slice el 1 by_))(hz:dU P el=some [.v (.int kk 0)])
   (h0:0<=a) (h1:a<=b) (h2:b<=140737488355328) (h3:b*by_<=140737488355328):uq P t (.v (.int k a)) (.v (.int k' b))=some (.fresh 1 a.toNat (lm (ik kk) (List.replicate a.toNat 0))):=by
  rw[aa8 htv hz rfl h0 h1 h2 h3,acS,← aat,aa1]
theorem aut{t el:TypeId}{by_:Nat}{a b:Int}{k k':IntKind}(htv:aX P t=some (.slice el 1 by_))(hz:dU P el=some [.v (.bool false)])
   (h0:0<=a) (h1:a<=b) (h2:b<=140737488355328) (h3:b*by_<=140737488355328):uq P t (.v (.int k a)) (.v (.int k' b))=some (.fresh 1 a.toNat (lm bk (List.replicate a.toNat false))):=by
  rw[aa8 htv hz rfl h0 h1 h2 h3,acS,← VV,aa1]
end
section
variable {P:Program}
theorem wz{op:BinOp}{t el:TypeId}{sz by_:Nat}{a m c c' m'}(ht:aX P t=some (.slice el sz by_)):pq P op t (.v (.slice a m c)) (.v (.slice none m' c'))=yf op a.isNone:=by simp[pq,ht]
theorem aep{op:BinOp}{t el:TypeId}{sz by_:Nat}{m c' m' xs}(ht:aX P t=some (.slice el sz by_))(hm:m≠0):pq P op t (.arr m xs) (.v (.slice none m' c'))=yf op false:=by simp[pq,ht,hm]
theorem afk{b:Bool}:yf .eql b=some (.v (.bool b)):=rfl
theorem asl:(none:Option Addr).isNone=true:=rfl
theorem asn{a:Addr}:(some a).isNone=false:=rfl
theorem auX{g:Id->Option ak}{a c}:l7 g (.v (.slice a 0 c))=some (0,[]):=rfl
theorem arQ{g:Id->Option ak}{x}:inner g (.v x)=[]:=rfl
theorem bH.gB{f:FuncId}{r:AV}(h: ∀ a c,bH P f [.v (.slice a 0 c)] r):bH P f [.arr 0 []] r:=by
  refine⟨(h none 0).1,λw F us hF hl hx=> ?_⟩
  match us,hl with
  | [u],_=>
    have hv:=hx 0 (.arr 0 []) u rfl rfl
    have: ∃ a c,u= .slice a 0 c:=by
      cases hv with
      | @gB a c=>exact⟨a,c,rfl⟩
      | @arr _ _ b o c us=>exact⟨_,c,rfl⟩
    obtain⟨a,c,rfl⟩:=this
    refine(h a c).2 w F [.slice a 0 c] hF rfl λi x u hi hu=> ?_
    cases i with
    |zero=>simp at hi hu;subst hi hu;exact .v
    |succ i=>simp at hi
end
section
variable {h:Heap} {lvl d by_:Nat} {id:Id} {n m:Nat} {α:Type} {f:α->AV}
theorem agv{l b:List α}(hm:m=b.length)(h3:n+m≤140737488355328)(h4:(n+m)*by_≤140737488355328)(h5:(lm f b).all AV.one=true):
    lS lvl d 1 by_ h m (lm f b) id n n (.sl true true 1 n (lm f l))=some (.own id 0 (n+m) (n+m),h.set id (.sl true true 1 (n+m) (lm f (l++b)))):=by
  rw[yj (by rw[TF,hm,Nat.mul_one]) h3 h4 h5,aaZ]
theorem Pg{l:List α}{x:α}(h3:n+1≤140737488355328)(h4:(n+1)*by_≤140737488355328)(h5:AV.one (f x)=true):
    lS lvl d 1 by_ h 1 [f x] id n n (.sl true true 1 n (lm f l))=some (.own id 0 (n+1) (n+1),h.set id (.sl true true 1 (n+1) (lm f (l++[x])))):=by
  rw[yj (by rfl) h3 h4 (by simp[h5]),aaZ];rfl
theorem agp{l:List Int}{x:Int}{k:IntKind}(h3:n+1≤140737488355328)(h4:(n+1)*by_≤140737488355328):
    lS lvl d 1 by_ h 1 [.v (.int k x)] id n n (.sl true true 1 n (lm (ik k) l))=some (.own id 0 (n+1) (n+1),h.set id (.sl true true 1 (n+1) (lm (ik k) (l++[x])))):=Pg (f:=ik k) h3 h4 rfl
theorem agn{l:List Bool}{x:Bool}(h3:n+1≤140737488355328)(h4:(n+1)*by_≤140737488355328):
    lS lvl d 1 by_ h 1 [.v (.bool x)] id n n (.sl true true 1 n (lm bk l))=some (.own id 0 (n+1) (n+1),h.set id (.sl true true 1 (n+1) (lm bk (l++[x])))):=Pg (f:=bk) h3 h4 rfl
theorem VD{l:List (List α)}{x:List α}(h3:n+1≤140737488355328)(h4:(n+1)*by_≤140737488355328):
    lS lvl d 1 by_ h 1 [.arr x.length (lm f x)] id n n (.sl true true 1 n (lm (eP f) l))=some (.own id 0 (n+1) (n+1),h.set id (.sl true true 1 (n+1) (lm (eP f) (l++[x])))):=Pg (f:=eP f) h3 h4 rfl
theorem VE{c:α→List AV}{w:Nat}(hw: ∀ x,(c x).length=w){l b:List α}(hm:m=b.length)(h3:n+m≤140737488355328)(h4:(n+m)*by_≤140737488355328)(h5:(fm c b).all AV.one=true):
    lS lvl d w by_ h m (fm c b) id n n (.sl true true w n (fm c l))=some (.own id 0 (n+m) (n+m),h.set id (.sl true true w (n+m) (fm c (l++b)))):=by
  rw[yj (by rw[Bo hw,hm]) h3 h4 h5,J5]
end
def iH(a b:Int):Int:=if b<a then b else a
def bV(a b:Int):Int:=if b>a then b else a
section
variable {P:Program} {C:bG} {cp:aC} {ci:bz} {lvl:Nat} {e:Env} {h:Heap}
theorem auG{ts k a b}:jh P .max ts [.v (.int k a),.v (.int k b)]=some (.v (.int k (bV a b))):=by simp[jh,bV]
theorem auu{ts k a b}:jh P .min ts [.v (.int k a),.v (.int k b)]=some (.v (.int k (iH a b))):=by simp[jh,iH]
theorem afV{d:Option Tmp}{x y:Operand}{ts}:dw P C cp ci lvl e h d (.call ⟨.builtin .min,⟨[x,y]⟩,ts⟩)=qo lvl (d.getD 0) h ((aB e.get x).bind fun a=>(aB e.get y).bind fun b=>jh P .min ts [a,b]):=by
  rw[kw (λ_ _ _ h=>by cases h) rfl]
  simp only[aq,aZ]
  cases aB e.get x <;> cases aB e.get y <;> rfl
end
theorem atG{P:Program}{t el:TypeId}{sz by_:Nat}{x:AV}(htv:aX P t=some (.slice el sz by_)):jh P .len #[t] [x]=(wF x).bind fun n=>some (.v (.int .i64 n)):=by
  have h0:(#[t])[0]? =some t:=rfl
  simp only[jh,h0,ai,htv]
theorem agu{lvl d esz by_ m:Nat}{h:Heap}{id:Id}{ys:List AV}(h2:ys.length=m*esz)(h3:m≤140737488355328)(h4:m*by_≤140737488355328)(h5:ys.all AV.one=true):
    lS lvl d esz by_ h m ys id 0 0 (.sl true true esz 0 [])=some (.own id 0 m m,h.set id (.sl true true esz m ys)):=by
  rw[yj h2 ae (by rw[Nat.zero_add];exact h4) h5,Nat.zero_add,List.nil_append]
theorem agt{lvl d esz by_ m n:Nat}{h:Heap}{id:Id}{ys cs:List AV}{c:AV}(h2:ys.length=m*esz)(h3:n+m≤140737488355328)(h4:(n+m)*by_≤140737488355328)(h5:ys.all AV.one=true):
    lS lvl d esz by_ h m ys id n n (.sl true true esz n (c::cs))=some (.own id 0 (n+m) (n+m),h.set id (.sl true true esz (n+m) (c::cs++ys))):=yj h2 h3 h4 h5
def RM:=af @agu<|af @agt<|af @afk<|af @asl<|af @asn<|af @auX<|af @arQ<|af @agp<|af @agn<|af @VD<|af @agv<|af @auG<|af @auu<|af @afV<| @afU
def RO:=af @abx<|af @abu<|af @abt<|af @abr<|af @Vx<|af @Vy<|af @aby<|af @abv<|af @abD<|af @abC<|af @abq<|af @abz<|af @abA<|af @abB<|af @abw<|af @Bool.and_self<| @Bool.and_true
def Yg{α:Type}(l s:List α):List α:=(s++l.drop s.length).take l.length
theorem alf{α:Type}{l s:List α}:(Yg l s).length=l.length:=by simp[Yg];omega
def LN:=af @alf<|af @List.length_set.{0}<|af @List.length_replicate.{0}<|af @List.length_append.{0}<|af @List.length_cons.{0}<|af @List.length_nil.{0}<|af @TF<|af @Nat.zero_add<| @Int.toNat_natCast
def FF:=af @am4<|af @am1<|af @ac5<|af @ac4<|af @azX<|af @azS<|af @azV<|af @azT<|af @azU<|af @azP<|af @azR<|af @azW<|
  af @amu<|af @amn<|af @amr<|af @amq<|af @amk<|af @amj<|af @amm<|af @ams<|af @alh<|af @alg<|af @az1<|af @az2<|
  af @abo<|af @abn<|af @abp<|af @aAs<|af @aAq<|af @aAt<|af @aAp<|af @aAr<|af @ave<|af @avb<|af @avd<|af @ava<|
  af @avh<|af @au9<|af @avc<| @avg
theorem ahu{α:Type}{f:α->AV}{l:List α}:eP f l= .arr l.length (lm f l):=rfl
theorem aht{α:Type}{c:α->List AV}{l:List α}:AB c l= .arr l.length (fm c l):=rfl
def NN:=af @ahu<|af @aht<|af @atX<|af @atV<|af @aat<|af @VV<|af @Z5<|af @Ef<|af @List.length_cons.{0}<|af @List.length_nil.{0}<|af @List.cons_append.{0}<|af @List.nil_append.{0}<| @frl.eq_1
end Go.Av
