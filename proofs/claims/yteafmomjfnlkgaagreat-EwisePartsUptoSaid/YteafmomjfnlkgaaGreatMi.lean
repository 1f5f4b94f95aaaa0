/- Calls that are stepped through in their caller; parts of rows of one's own. Conditions: those that each names. -/
import Derived.Test.YteafmomjfnlkgaaGreatMo
set_option linter.unusedVariables false
set_option linter.defProp false
namespace Go.Av
section
variable {P:Program} {C:bn} {cp:af} {ci:bg} {lvl n:Nat} {e:Env} {h:Heap} {g:Id->Option ax} {prot:List Id} {D:List (Nat×List Nat)} {K:KK} {α:Type} {f:α->AV}
def bH(fs:List Nat):bn:=⟨λk=>jw fs k,λ_=>[]⟩
def yj:Heap→Nat
  |[]=>1
  |(i,_)::h=>if yj h<=i.1 then i.1+1 else yj h
theorem apa:yj []=1:=rfl
def XR(a m:Nat):Nat:=if m<=a then a+1 else m
theorem aHu{a m:Nat}(hm:m<=a):XR a m=a+1:=if_pos hm
theorem aDW{a m:Nat}(hm:a<m):XR a m=m:=if_neg (Nat.not_le_of_lt hm)
theorem aMh{a b c:Nat}{x:ax}:yj (((a,b,c),x)::h)=XR a (yj h):=rfl
theorem aMK:keys []=[]:=rfl
theorem aqw{i:Id}{x:ax}:keys ((i,x)::h)=i::keys h:=rfl
def dO(P:Program)(C:bn)(cp:af)(cin:bg)(n:Nat)(f:FuncId)(D:List (Nat×List Nat))(i:aW)(ci:bg):bg:=fun lvl k as h=>
  if k=f then N9 P C cp cin n D i (yj h) as h else ci lvl k as h
theorem iF(hm:P.follows .mixedOrders=true)(hcp:aJ P cp){cin:bg}(hcin:dU P cin){f:FuncId}{i:aW}(hi:au P f D=some i)(hci:dU P ci):dU P (dO P C cp cin n f D i ci):=fun lvl k as h r h' hq=>by
  unfold dO at hq
  split at hq
  · rename_i hk;subst hk;exact .inl (azj hm hcp hcin hi hq)
  · exact hci _ _ _ _ _ _ hq
def kin(P:Program)(rs:List ResultVar)(h:Heap)(nx:AV×Heap→Option AV):KK:=fun y e h'=>match y with
  | .exit _=>none
  |_=>(aV (kS P e h') rs).bind λrs=>nx (one rs,sweep (keys h) [(0,one rs)] h')
def PQ(h:Heap)(nx:AV×Heap->Option AV)(h':Heap)(rs:List AV):Option AV:=nx (one rs,sweep (keys h) [(0,one rs)] h')
theorem avU{h':Heap}{nx:AV×Heap->Option AV}{rs:List AV}:PQ h nx h' rs=nx (one rs,sweep (keys h) [(0,one rs)] h'):=rfl
theorem ads{rs:List ResultVar}{h':Heap}{nx:AV×Heap->Option AV}:kin P rs h nx .ret e h'=(aV (kS P e h') rs).bind (PQ h nx h'):=rfl
theorem aMw{rs:List ResultVar}{h':Heap}{nx:AV×Heap->Option AV}:kin P rs h nx .normal e h'=(aV (kS P e h') rs).bind (PQ h nx h'):=rfl
theorem aEs{cin:bg}{k:FuncId}{c:Code}{rs:List ResultVar}{ts:List TypeId}{as:List AV}{nx:AV×Heap→Option AV}:
    (dO P C cp cin n k D ⟨c,rs,ts⟩ ci lvl k as h).bind nx=go P C cp cin (yj h) (keys h) D n (kin P rs h nx) c (ay 0 as) h []:=by
  unfold dO go N9
  rw[if_pos rfl]
  cases hx:exec P C cp cin (yj h) (keys h) D n c (ay 0 as) h with
  |none=>rfl
  | some r=>
    rcases r with⟨y,e',h'⟩
    cases y with
    |exit j=>rfl
    | normal=>
      simp only[ob_some,ret,kin]
      cases aV (kS P e' h') rs <;> rfl
    | ret=>
      simp only[ob_some,ret,kin]
      cases aV (kS P e' h') rs <;> rfl
theorem aIy{cin:bg}{k f:FuncId}{i:aW}{as:List AV}(hne: ¬ k=f):dO P C cp cin n f D i ci lvl k as h=ci lvl k as h:=by
  unfold dO
  rw[if_neg hne]
theorem aym{d:Option Tmp}{k args ts}(hi:C.inl k=true):bW P C cp ci lvl e h d (.call ⟨.value (.func k),⟨args⟩,ts⟩)=(aV (az e.get) args).bind fun as=>ci (lvl+1) k as h:=by
  simp only[bW,az,ob_some,rf,List.nil_append,List.append_nil,hi,if_true]
theorem adY{d:Option Tmp}{k args ts}(hi:C.inl k=false):bW P C cp ci lvl e h d (.call ⟨.value (.func k),⟨args⟩,ts⟩)=(aV (az e.get) args).bind λas=>kG lvl (d.getD 0) h (kJ cp h.get k as):=afU hi
theorem acU{e:Nat→Option AV}{k args ts}(hi:C.inl k=false):bF P C cp e g (.call ⟨.value (.func k),⟨args⟩,ts⟩)=(aV (az e) args).bind fun as=>(kJ cp g k as).bind fun r=>if r.2.isEmpty=true then some r.1 else if fO 4 r.1=false then some r.1 else none:=by
  simp only[bF,az,ob_some,rf,List.nil_append,List.append_nil,hi,Bool.false_eq_true,if_false]
def pY(C:bn)(cp:af)(g:Id→Option ax)(as:Option (List AV)):AV→Option AV
  | .fn k first cap=>as.bind λas=>if C.inl k=true then none else(kJ cp g k (first++as++cap)).bind λr=>if r.2.isEmpty=true then some r.1 else if fO 4 r.1=false then some r.1 else none
  |_=>none
theorem ajg{as:List AV}{k:FuncId}{first cap:List AV}(hi:C.inl k=false):pY C cp g (some as) (.fn k first cap)=(kJ cp g k (first++as++cap)).bind fun r=>if r.2.isEmpty=true then some r.1 else if fO 4 r.1=false then some r.1 else none:=by
  show(if C.inl k=true then none else _)=_
  rw[if_neg (by rw[hi];decide)]
theorem aHD{e:Nat→Option AV}{t args ts}:bF P C cp e g (.call ⟨.value (.tmp t),⟨args⟩,ts⟩)=(e t).bind (pY C cp g (aV (az e) args)):=by
  simp only[bF,az]
  congr 1
  funext x
  cases x <;> try rfl
theorem aAd{a b:List α}{ext:Nat}(he:a.length≠ext):cut (lm f (a++b)) 0 a.length 1 ext=lm f a:=by
  unfold cut
  rw[if_neg (λhh=>he hh.2)]
  simp[lm]
theorem aEq{d by_:Nat}{id:Id}{n:Nat}{l:List Int}{x y:Int}{k:IntKind}(h3:n+2≤140737488355328)(h4:(n+2)*by_≤140737488355328):
    lU lvl d 1 by_ h 2 [.v (.int k x),.v (.int k y)] id n n (.sl true true 1 n (lm (ik k) l))=some (.own id 0 (n+2) (n+2),h.set id (.sl true true 1 (n+2) (lm (ik k) (l++[x,y])))):=by
  rw[Af (by rfl) h3 h4 (by simp[AV.one])]
  simp[lm,ik]
def ry(P:Program)(t:TypeId)(h:Heap)(id:Id)(off:Nat)(ys:List AV):ax→Option (AV×Heap)
  | .bx rw cells=>if ys.all AV.one=true then Es h id off 0 ys (.bx rw cells)else none
  |_=>iK P t h (.ptr id off 0) (.agg ys)
theorem yV{t:TypeId}{id:Id}{off w:Nat}{ys:List AV}(hsz:bi P t=w)(h0:0<w)(hl:ys.length=w):
    iK P t h (.ptr id off 0) (.agg ys)=(h.get id).bind (ry P t h id off ys):=by
  cases hg:h.get id with
  | none=>
    unfold iK jY
    simp only[hg,Vd]
    split <;> rfl
  | some b=>
    cases b with
    |sl a b c d e=>rfl
    | bx rw cells=>
      simp only[ob_some,ry]
      by_cases h1:ys.all AV.one=true
      · rw[if_pos h1]
        exact aEF (by rw[hsz,hl]) (by omega) h1 hg
      · rw[if_neg h1]
        unfold iK
        split
        · unfold jY
          simp only[hg,ob_some]
          rw[if_neg (λhh=>h1 hh.2.2)];rfl
        · rfl
theorem aC3{t:TypeId}{id:Id}{off:Nat}{ys cells:List AV}(ho:off+ys.length≤cells.length):ry P t h id off ys (.bx true cells)=if ys.all AV.one=true then some (.v undef,h.set id (.bx true (putCells cells off ys)))else none:=by
  simp only[ry]
  rw[akR ho]
theorem aoi{l:List Int}{x y:Int}{k:IntKind}:lm (ik k) l++[.v (.int k x),.v (.int k y)]=lm (ik k) (l++[x,y]):=by simp[lm,ik]
def iO:=And.intro @avU<|And.intro @ads<| @aMw
theorem aID{d:Option Tmp}{f:FuncId}{first cap:List Operand}:bW P C cp ci lvl e h d (.makeFunc (.func f) ⟨first⟩ ⟨cap⟩)=qo lvl (d.getD 0) h ((aV (az e.get) first).bind λa=>(aV (az e.get) cap).bind λb=>some (.fn f a b)):=jI (λ_ _ _ h=>by cases h) rfl
theorem aCq{xs:List AV}:Iu (.agg xs)=if xs.all AV.one=true then some (.newbx xs)else none:=rfl
theorem aLI{e:Nat->Option AV}{t ps}:bF P C cp e g (.build t ⟨ps⟩)=(aV (λp:Nat×Operand=>(az e p.2).bind λy=>some (p.1,y)) ps).bind λps=>yE P t ps:=rfl
theorem awc{e:Nat→Option AV}{t m ps}(hC:(C.drops 0).isEmpty=true):bF P C cp e g (.buildSlice t m ⟨ps⟩)=(aV (fun p:Nat×Operand=>(az e p.2).bind fun y=>some (p.1,y)) ps).bind fun ps=>wY P t m ps:=by
  show(if IR (.buildSlice t m ⟨ps⟩)=true/\(C.drops 0).isEmpty=false then _ else _)=_
  rw[if_neg (by rw[hC];simp)]
  rfl
theorem aub{e:Nat→Option AV}{t m ps}(hC:(C.drops 0).isEmpty=false):bF P C cp e g (.buildSlice t m ⟨ps⟩)=((aV (fun p:Nat×Operand=>(az e p.2).bind fun y=>some (p.1,y)) ps).bind fun ps=>wY P t m ps).bind A7:=by
  show(if IR (.buildSlice t m ⟨ps⟩)=true/\(C.drops 0).isEmpty=false then _ else _)=_
  rw[if_pos ⟨rfl,hC⟩]
  rfl
def aeJ:bn:=⟨λ_=>false,λ_=>[(0,[])]⟩
theorem aGj{sz m:Nat}{x:AV}{xs:List AV}:A7 (.fresh sz m (x::xs))=some (.arr m (x::xs)):=by simp[A7]
theorem au6{sz:Nat}:A7 (.fresh sz 0 [])=some (.arr 0 []):=rfl
theorem aqi{e:Nat->Option AV}{src dst:TypeId}{x:Operand}:bF P C cp e g (.convert src dst x)=(az e x).bind (qO P src dst):=rfl
theorem asf{e:Nat->Option AV}{t:TypeId}{x:Operand}:bF P C cp e g (.box t x)=(az e x).bind Iu:=rfl
theorem aLy{e:Nat->Option AV}{t i:Nat}{x:Operand}:bF P C cp e g (.field t x i)=(az e x).bind (CU P t i):=rfl
theorem avW{e:Nat->Option AV}{t:TypeId}{x y:Operand}:bF P C cp e g (.makeSlice t x y)=(az e x).bind λa=>(az e y).bind λb=>uJ P t a b:=rfl
theorem aw0{e:Nat->Option AV}{t:TypeId}{x:Operand}{lo hi}:bF P C cp e g (.slice t x lo hi none)=(az e x).bind λa=>(oQ (az e) lo).bind λl=>(oQ (az e) hi).bind λr=>oN P t g a l r:=rfl
theorem asX{e:Nat→Option AV}{i:Nat}{x:Operand}:bF P C cp e g (.extract x i)=(az e x).bind (V9 i):=by
  show((az e x).bind fun a=>match a with
    | .tuple xs=>xs[i]?
    |_=>none)=_
  rfl
theorem aDg{e:Nat→Option AV}{x:Operand}:bF P C cp e g (.nilCheck x)=(az e x).bind (Q4 g):=by
  show((az e x).bind fun y=>match y with
    | .ptr id _ ext=>if live g id ext=true then some y else none
    | .aF _ _=>some y
    | .fn _ _ _=>some y
    |_=>none)=_
  congr 1
  funext y
  cases y <;> try rfl
  rename_i id off ext
  have: ∀ b,g id=b→(if live g id ext=true then some (AV.ptr id off ext)else none)=b.bind (yO (.ptr id off ext) ext):=fun b hb=>by
    unfold live
    rw[hb]
    cases b <;> rfl
  exact this _ rfl
theorem anv{e:Nat->Option AV}{f:FuncId}{first cap:List Operand}:bF P C cp e g (.makeFunc (.func f) ⟨first⟩ ⟨cap⟩)=(aV (az e) first).bind λa=>(aV (az e) cap).bind λb=>some (.fn f a b):=rfl
theorem aCL{e:Nat→Option AV}{t:TypeId}{z:List AV}(hz:dG P t=some z):bF P C cp e g (.alloc t)=some (.newbx z):=by
  show(dG P t).bind _=_
  rw[hz];rfl
theorem aB1{e:Nat→Option AV}{x y:Operand}{ts}:bF P C cp e g (.call ⟨.builtin .min,⟨[x,y]⟩,ts⟩)=(az e x).bind fun a=>(az e y).bind fun b=>jJ P .min ts [a,b]:=by
  simp only[bF,aq,aV]
  cases az e x <;> cases az e y <;> rfl
theorem aD2{e:Nat→Option AV}{x y:Operand}{ts}:bF P C cp e g (.call ⟨.builtin .max,⟨[x,y]⟩,ts⟩)=(az e x).bind fun a=>(az e y).bind fun b=>jJ P .max ts [a,b]:=by
  simp only[bF,aq,aV]
  cases az e x <;> cases az e y <;> rfl
theorem avI{id:Id}{d:Nat}{xs:List AV}:names id (d+1) (.tuple xs)=xs.any (names id d):=rfl
theorem aG3{k:Nat}:shrink prot k e h=(e.get k).bind (Gv prot k e h):=rfl
theorem azV{k n' ext:Nat}{id:Id}:Gv prot k e h (.own id 0 n' ext)=(h.get id).bind (IA prot k e h id n' ext):=rfl
theorem ayU{k n' e2 sz:Nat}{id:Id}{cells:List AV}(h1:n'≤e2):IA prot k e h id n' e2 (.sl true true sz e2 cells)=
    if(lC prot id || (mO id (e.drop [k]) || pq id h))=true then none else some (e.set k (.own id 0 n' n'),h.set id (.sl true true sz n' (cells.take (n'*sz)))):=by
  simp only[IA]
  cases lC prot id <;> cases mO id (e.drop [k]) <;> cases pq id h <;> simp[h1]
theorem avd{l:List α}{k:Nat}:(lm f l).take (k*1)=lm f (l.take k):=by simp[lm]
theorem aJx{d:Option Tmp}{x:Operand}{ts}:bW P C cp ci lvl e h d (.call ⟨.builtin .cap,⟨[x]⟩,ts⟩)=qo lvl (d.getD 0) h ((az e.get x).bind fun a=>jJ P .cap ts [a]):=by
  rw[jI (λ_ _ _ h=>by cases h) rfl]
  simp only[aq,aV]
  cases az e.get x <;> rfl
theorem aGA{e:Nat→Option AV}{x:Operand}{ts}:bF P C cp e g (.call ⟨.builtin .cap,⟨[x]⟩,ts⟩)=(az e x).bind fun a=>jJ P .cap ts [a]:=by
  simp only[bF,aq,aV]
  cases az e x <;> rfl
def slN(l r:Nat):Option AV:=if l=0/\r=0 then some (.v (.slice none 0 0))else none
theorem aLl:slN 0 0=some (.v (.slice none 0 0)):=rfl
theorem aAt{P:Program}{t:TypeId}{s:ByteArray}(htv:aP P t=some .str):jJ P .len #[t] [.v (.string s)]=some (.v (.int .i64 s.size)):=by simp[jJ,htv]
def J5(s:ByteArray)(i:Int):Option AV:=if 0<=i then(s[i.toNat]?).bind λb=>some (.v (.int .u8 b.toNat))else none
theorem anV{P:Program}{t:TypeId}{s:ByteArray}{i:Int}(htv:aP P t=some .str):yg P t (.v (.string s)) i=J5 s i:=by
  unfold yg
  rw[htv]
  rfl
theorem aJV{d:Option Tmp}{t:TypeId}{x y:Operand}:bW P C cp ci lvl e h d (.index t x y)=qo lvl (d.getD 0) h ((az e.get x).bind λa=>(az e.get y).bind λb=>(lT b).bind λn=>yg P t a n):=jI (λ_ _ _ h=>by cases h) rfl
theorem axB{e:Nat->Option AV}{t:TypeId}{x y:Operand}:bF P C cp e g (.index t x y)=(az e x).bind λa=>(az e y).bind λb=>(lT b).bind λn=>yg P t a n:=rfl
def sat?(s:ByteArray)(i:Int):Option Int:=if 0<=i then(s[i.toNat]?).bind λb=>some (b.toNat:Int)else none
theorem J.sat{β:Type}{m:Option AV}{enc:β→AV}{s:ByteArray}{i:Int}{k:Int→Option β}(a: ∀ r,J5 s i=Option.some (.v (.int .u8 r))→J m (k r) enc):J m ((sat? s i).bind k) enc:=
  J.bind fun r hr=>a r (by
    unfold sat? at hr
    unfold J5
    split at hr
    · rename_i h0
      rw[if_pos h0]
      cases hs:s[i.toNat]? with
      |none=>rw[hs]at hr;cases hr
      |some b=>rw[hs]at hr;injection hr with hr;subst hr;rfl
    · cases hr)
theorem aHG{k:Nat}:Gv prot k e h (.v (.slice none 0 0))=some (e,h):=rfl
theorem aLq{k sz c:Nat}:EQ lvl k sz c e h=(e.get k).bind (Pv lvl k sz c h):=rfl
theorem aE5{k sz c:Nat}{id:Id}:Pv lvl k sz c h (.ptr id 0 0)=(h.get id).bind (PO lvl k sz c h id):=rfl
theorem amU{k sz c:Nat}{id:Id}{cells:List AV}:PO lvl k sz c h id (.bx true cells)=(cells[c]?).bind (JX lvl k sz c h id cells):=rfl
theorem apA{k sz c:Nat}{id:Id}{cells:List AV}(hs:0<sz)(hs2: ¬ 500<sz):JX lvl k sz c h id cells (.v (.slice none 0 0))=(h.new (lvl,k,78+c) (.sl true true sz 0 [])).bind fun h1=>some (h1.set id (.bx true (cells.set c (.own (lvl,k,78+c) 0 0 0)))):=by
  show(if sz=0 then _ else(h.new (lvl,k,78+c) (if 500<sz then _ else _)).bind _)=_
  rw[if_neg (by omega),if_neg hs2]
theorem aAT{d esz by_:Nat}{id:Id}{n:Nat}{cells ys:List AV}{y:AV}(h6:1<esz)(h3:n+1≤140737488355328)(h4:(n+1)*by_≤140737488355328):
    lU lvl d esz by_ h 1 (y::ys) id n n (.sl true true esz n cells)=if(y::ys).length=1*esz then(if(y::ys).all AV.one=true then some (.own id 0 (n+1) (n+1),h.set id (.sl true true esz (n+1) (cells++y::ys)))else none)else none:=by
  by_cases h2:(y::ys).length=1*esz
  · rw[if_pos h2]
    by_cases h5:(y::ys).all AV.one=true
    · rw[if_pos h5];exact Af h2 h3 h4 h5
    · rw[if_neg h5]
      simp only[lU]
      rw[if_neg (λhh=>h5 hh.2.2.2.2.2.2)]
  · rw[if_neg h2]
    simp only[lU]
    rw[if_neg (λhh=>h2 hh.2.2.2.1)]
def agN(off m sz ext:Nat)(cs:List AV):Option (Nat×List AV):=some (m,cut cs off m sz ext)
theorem aFY{off m sz ext:Nat}{cs:List AV}:agN off m sz ext cs=some (m,cut cs off m sz ext):=rfl
theorem awI{off m ext:Nat}{r:Bool}{sz:Nat}{cells:List AV}:G5 g off m ext (.sl false r sz ext cells)=(aV (aG g 3) cells).bind (agN off m sz ext):=by
  simp only[G5,KE,E8,if_true]
  cases aV (aG g 3) cells <;> rfl
theorem az9{r:Bool}{sz ext:Nat}{cells:List AV}:QI g (some (.sl false r sz ext cells))=(cells.map (aO g 3)).flatten:=rfl
def RH:=And.intro @Int.toNat_zero<|And.intro @ajg<|And.intro @aHD<|And.intro @aAT<|And.intro @aFY<|And.intro @awI<|And.intro @az9<|And.intro @aFL<|And.intro @aH4<|And.intro @aHG<|And.intro @aAx<|And.intro @aLq<|And.intro @aE5<|And.intro @amU<|And.intro @apA<|And.intro @az7<|And.intro @aLl<|And.intro @aJV<|And.intro @axB<|And.intro @axk<|And.intro @aME<|And.intro @aG3<|And.intro @azV<|And.intro @ayU<|And.intro @avd<|And.intro @aJx<|And.intro @aGA<|And.intro @List.take_zero.{0}<|And.intro @Nat.zero_mul<|And.intro @avI<|And.intro @aLI<|And.intro @awc<|And.intro @aub<|And.intro @aGj<|And.intro @au6<|And.intro @aqi<|And.intro @asf<|And.intro @aLy<|And.intro @avW<|And.intro @aw0<|And.intro @asX<|And.intro @aDg<|And.intro @anv<|And.intro @aB1<|And.intro @aD2<|And.intro @aCq<|And.intro @aC3<| @aID
theorem aDj{dd:Nat}{as:List AV}{k:FuncId}{first cap:List AV}(hi:C.inl k=true):lG C cp ci lvl dd h (some as) (.fn k first cap)=ci (lvl+1) k (first++as++cap) h:=by simp[lG,hi]
def RI:=And.intro @aDj<|And.intro @aoi<|And.intro @apa<|And.intro @aMh<|And.intro @aHu<|And.intro @aDW<|And.intro @aMK<|And.intro @aqw<|And.intro @aEs<|And.intro @aIy<|And.intro @aym<|And.intro @adY<|And.intro @acU<|
  And.intro @aAd<|And.intro @aEq<|And.intro @adh<|And.intro @amQ<|And.intro @amH<|And.intro @ah2<|And.intro @adC<|And.intro @Nat.sub_zero<| @Nat.zero_mul
variable {β:Type} {s:Option β} {enc:β->AV}
theorem J.SN{τ:Type}{c:Code}{rs:List ResultVar}{nx:AV×Heap→Option AV}{h0:Heap}(st:τ→AV×Heap)(fj:τ→Option β)(h1: ∀ t,J (nx (st t)) (fj t) enc)
    (h2:(∀ t,J (nx (st t)) (fj t) enc)->J (go P C cp ci lvl prot D n (kin P rs h0 nx) c e h []) s enc):J (go P C cp ci lvl prot D n (kin P rs h0 nx) c e h []) s enc:=h2 h1
def OG(P:Program)(rs:List ResultVar)(h0:Heap)(e:Env)(h':Heap):Option (AV×Heap):=(aV (kS P e h') rs).bind λrs=>some (one rs,sweep (keys h0) [(0,one rs)] h')
theorem J.Om{τ:Type}{rs:List ResultVar}{nx:AV×Heap→Option AV}{h0 h':Heap}{st:τ→AV×Heap}{fj:τ→Option β}(hj: ∀ t,J (nx (st t)) (fj t) enc){t:τ}(hv:OG P rs h0 e h'=Option.some (st t)):J (kin P rs h0 nx .ret e h') (fj t) enc:=by
  refine J.eq ?_ (hj t)
  rw[ads]
  unfold OG at hv
  cases hx:aV (kS P e h') rs with
  |none=>rw[hx]at hv;cases hv
  |some r=>rw[hx]at hv;simp only[ob_some,PQ]at hv ⊢;injection hv with hv;rw[hv]
theorem J.UX{τ:Type}{rs:List ResultVar}{nx:AV×Heap->Option AV}{h0 h':Heap}{st:τ->AV×Heap}{fj:τ->Option β}(hj: ∀ t,J (nx (st t)) (fj t) enc){t:τ}(hv:OG P rs h0 e h'=Option.some (st t)):J (kin P rs h0 nx .normal e h') (fj t) enc:=J.Om hj hv
def aly(h0 h':Heap)(rs:List AV):Option (AV×Heap):=some (one rs,sweep (keys h0) [(0,one rs)] h')
theorem zi{rs:List ResultVar}{h0 h':Heap}:OG P rs h0 e h'=(aV (kS P e h') rs).bind (aly h0 h'):=rfl
theorem zF{h0 h':Heap}{rs:List AV}:aly h0 h' rs=some (one rs,sweep (keys h0) [(0,one rs)] h'):=rfl
end
end Go.Av
