/- Calls that are stepped through in their caller; parts of rows of one's own. Conditions: those that each names. -/
import Derived.Test.YtiagecndhhinfaaGreatMo
set_option linter.unusedVariables false
set_option linter.defProp false
namespace Go.Av
section
variable {P:Program} {C:bG} {cp:aC} {ci:bz} {lvl n:Nat} {e:Env} {h:Heap} {g:Id->Option ak} {prot:List Id} {D:List (Nat×List Nat)} {K:KK} {α:Type} {f:α->AV}
def jb(fs:List Nat):bG:=⟨λk=>jJ fs k,λ_=>[]⟩
def xk:Heap→Nat
  |[]=>1
  |(i,_)::h=>if xk h<=i.1 then i.1+1 else xk h
theorem auc:xk []=1:=rfl
def TJ(a m:Nat):Nat:=if m<=a then a+1 else m
theorem aue{a m:Nat}(hm:m<=a):TJ a m=a+1:=if_pos hm
theorem aud{a m:Nat}(hm:a<m):TJ a m=m:=if_neg (Nat.not_le_of_lt hm)
theorem aub{a b c:Nat}{x:ak}:xk (((a,b,c),x)::h)=TJ a (xk h):=rfl
theorem asH:keys []=[]:=rfl
theorem asG{i:Id}{x:ak}:keys ((i,x)::h)=i::keys h:=rfl
def iE(P:Program)(C:bG)(cp:aC)(cin:bz)(n:Nat)(f:FuncId)(D:List (Nat×List Nat))(i:aU)(ci:bz):bz:=fun lvl k as h=>
  if k=f then G5 P C cp cin n D i (xk h) as h else ci lvl k as h
theorem je(hm:P.follows .mixedOrders=true)(hcp:aK P cp){cin:bz}(hcin:eH P cin){f:FuncId}{i:aU}(hi:aN P f D=some i)(hci:eH P ci):eH P (iE P C cp cin n f D i ci):=fun lvl k as h r h' hq=>by
  unfold iE at hq
  split at hq
  · rename_i hk;subst hk;exact .inl (ahW hm hcp hcin hi hq)
  · exact hci _ _ _ _ _ _ hq
def kin(P:Program)(rs:List ResultVar)(h:Heap)(nx:AV×Heap→Option AV):KK:=fun y e h'=>match y with
  | .exit _=>none
  |_=>(aZ (mf P e h') rs).bind λrs=>nx (one rs,sweep (keys h) [(0,one rs)] h')
def LD(h:Heap)(nx:AV×Heap->Option AV)(h':Heap)(rs:List AV):Option AV:=nx (one rs,sweep (keys h) [(0,one rs)] h')
theorem asJ{h':Heap}{nx:AV×Heap->Option AV}{rs:List AV}:LD h nx h' rs=nx (one rs,sweep (keys h) [(0,one rs)] h'):=rfl
theorem aaR{rs:List ResultVar}{h':Heap}{nx:AV×Heap->Option AV}:kin P rs h nx .ret e h'=(aZ (mf P e h') rs).bind (LD h nx h'):=rfl
theorem asK{rs:List ResultVar}{h':Heap}{nx:AV×Heap->Option AV}:kin P rs h nx .normal e h'=(aZ (mf P e h') rs).bind (LD h nx h'):=rfl
theorem akF{cin:bz}{k:FuncId}{c:Code}{rs:List ResultVar}{ts:List TypeId}{as:List AV}{nx:AV×Heap→Option AV}:
    (iE P C cp cin n k D ⟨c,rs,ts⟩ ci lvl k as h).bind nx=go P C cp cin (xk h) (keys h) D n (kin P rs h nx) c (bW 0 as) h []:=by
  unfold iE go G5
  rw[if_pos rfl]
  cases hx:exec P C cp cin (xk h) (keys h) D n c (bW 0 as) h with
  |none=>rfl
  | some r=>
    rcases r with⟨y,e',h'⟩
    cases y with
    |exit j=>rfl
    | normal=>
      simp only[ai,ret,kin]
      cases aZ (mf P e' h') rs <;> rfl
    | ret=>
      simp only[ai,ret,kin]
      cases aZ (mf P e' h') rs <;> rfl
theorem akG{cin:bz}{k f:FuncId}{i:aU}{as:List AV}(hne: ¬ k=f):iE P C cp cin n f D i ci lvl k as h=ci lvl k as h:=by
  unfold iE
  rw[if_neg hne]
theorem afQ{d:Option Tmp}{k args ts}(hi:C.inl k=true):dw P C cp ci lvl e h d (.call ⟨.value (.func k),⟨args⟩,ts⟩)=(aZ (aB e.get) args).bind fun as=>ci (lvl+1) k as h:=by
  simp only[dw,aB,ai,qX,List.nil_append,List.append_nil,hi,if_true]
theorem yg{d:Option Tmp}{k args ts}(hi:C.inl k=false):dw P C cp ci lvl e h d (.call ⟨.value (.func k),⟨args⟩,ts⟩)=(aZ (aB e.get) args).bind λas=>uV lvl (d.getD 0) h (mr cp h.get k as):=VA hi
theorem yw{e:Nat→Option AV}{k args ts}(hi:C.inl k=false):bZ P C cp e g (.call ⟨.value (.func k),⟨args⟩,ts⟩)=(aZ (aB e) args).bind fun as=>(mr cp g k as).bind fun r=>if r.2.isEmpty=true then some r.1 else if iG 4 r.1=false then some r.1 else none:=by
  simp only[bZ,aB,ai,qX,List.nil_append,List.append_nil,hi,Bool.false_eq_true,if_false]
def Z7(C:bG)(cp:aC)(g:Id→Option ak)(as:Option (List AV)):AV→Option AV
  | .fn k first cap=>as.bind λas=>if C.inl k=true then none else(mr cp g k (first++as++cap)).bind λr=>if r.2.isEmpty=true then some r.1 else if iG 4 r.1=false then some r.1 else none
  |_=>none
theorem anD{as:List AV}{k:FuncId}{first cap:List AV}(hi:C.inl k=false):Z7 C cp g (some as) (.fn k first cap)=(mr cp g k (first++as++cap)).bind fun r=>if r.2.isEmpty=true then some r.1 else if iG 4 r.1=false then some r.1 else none:=by
  show(if C.inl k=true then none else _)=_
  rw[if_neg (by rw[hi];decide)]
theorem agU{e:Nat→Option AV}{t args ts}:bZ P C cp e g (.call ⟨.value (.tmp t),⟨args⟩,ts⟩)=(e t).bind (Z7 C cp g (aZ (aB e) args)):=by
  simp only[bZ,aB]
  congr 1
  funext x
  cases x <;> try rfl
theorem ali{a b:List α}{ext:Nat}(he:a.length≠ext):cut (lm f (a++b)) 0 a.length 1 ext=lm f a:=by
  unfold cut
  rw[if_neg (λhh=>he hh.2)]
  simp[lm]
theorem agr{d by_:Nat}{id:Id}{n:Nat}{l:List Int}{x y:Int}{k:IntKind}(h3:n+2≤140737488355328)(h4:(n+2)*by_≤140737488355328):
    lS lvl d 1 by_ h 2 [.v (.int k x),.v (.int k y)] id n n (.sl true true 1 n (lm (ik k) l))=some (.own id 0 (n+2) (n+2),h.set id (.sl true true 1 (n+2) (lm (ik k) (l++[x,y])))):=by
  rw[yj (by rfl) h3 h4 (by simp[AV.one])]
  simp[lm,ik]
def vO(P:Program)(t:TypeId)(h:Heap)(id:Id)(off:Nat)(ys:List AV):ak→Option (AV×Heap)
  | .bx rw cells=>if ys.all AV.one=true then CU h id off 0 ys (.bx rw cells)else none
  |_=>jQ P t h (.ptr id off 0) (.agg ys)
theorem Fp{t:TypeId}{id:Id}{off w:Nat}{ys:List AV}(hsz:bD P t=w)(h0:0<w)(hl:ys.length=w):
    jQ P t h (.ptr id off 0) (.agg ys)=(h.get id).bind (vO P t h id off ys):=by
  cases hg:h.get id with
  | none=>
    unfold jQ lh
    simp only[hg,TZ]
    split <;> rfl
  | some b=>
    cases b with
    |sl a b c d e=>rfl
    | bx rw cells=>
      simp only[ai,vO]
      by_cases h1:ys.all AV.one=true
      · rw[if_pos h1]
        exact azq (by rw[hsz,hl]) ae h1 hg
      · rw[if_neg h1]
        unfold jQ
        split
        · unfold lh
          simp only[hg,ai]
          rw[if_neg (λhh=>h1 hh.2.2)];rfl
        · rfl
theorem azl{t:TypeId}{id:Id}{off:Nat}{ys cells:List AV}(ho:off+ys.length≤cells.length):vO P t h id off ys (.bx true cells)=if ys.all AV.one=true then some (.v undef,h.set id (.bx true (putCells cells off ys)))else none:=by
  simp only[vO]
  rw[adh ho]
theorem atO{l:List Int}{x y:Int}{k:IntKind}:lm (ik k) l++[.v (.int k x),.v (.int k y)]=lm (ik k) (l++[x,y]):=by simp[lm,ik]
def ed:=af @asJ<|af @aaR<| @asK
theorem afX{d:Option Tmp}{f:FuncId}{first cap:List Operand}:dw P C cp ci lvl e h d (.makeFunc (.func f) ⟨first⟩ ⟨cap⟩)=qo lvl (d.getD 0) h ((aZ (aB e.get) first).bind λa=>(aZ (aB e.get) cap).bind λb=>some (.fn f a b)):=kw (λ_ _ _ h=>by cases h) rfl
theorem ah5{xs:List AV}:DV (.agg xs)=if xs.all AV.one=true then some (.newbx xs)else none:=rfl
theorem agP{e:Nat->Option AV}{t ps}:bZ P C cp e g (.build t ⟨ps⟩)=(aZ (λp:Nat×Operand=>(aB e p.2).bind λy=>some (p.1,y)) ps).bind λps=>wB P t ps:=rfl
theorem agR{e:Nat→Option AV}{t m ps}(hC:(C.drops 0).isEmpty=true):bZ P C cp e g (.buildSlice t m ⟨ps⟩)=(aZ (fun p:Nat×Operand=>(aB e p.2).bind fun y=>some (p.1,y)) ps).bind fun ps=>uO P t m ps:=by
  show(if DW (.buildSlice t m ⟨ps⟩)=true/\(C.drops 0).isEmpty=false then _ else _)=_
  rw[if_neg (by rw[hC];simp)]
  rfl
theorem agS{e:Nat→Option AV}{t m ps}(hC:(C.drops 0).isEmpty=false):bZ P C cp e g (.buildSlice t m ⟨ps⟩)=((aZ (fun p:Nat×Operand=>(aB e p.2).bind fun y=>some (p.1,y)) ps).bind fun ps=>uO P t m ps).bind zN:=by
  show(if DW (.buildSlice t m ⟨ps⟩)=true/\(C.drops 0).isEmpty=false then _ else _)=_
  rw[if_pos ⟨rfl,hC⟩]
  rfl
def ES:bG:=⟨λ_=>false,λ_=>[(0,[])]⟩
theorem ayD{sz m:Nat}{x:AV}{xs:List AV}:zN (.fresh sz m (x::xs))=some (.arr m (x::xs)):=by simp[zN]
theorem ayE{sz:Nat}:zN (.fresh sz 0 [])=some (.arr 0 []):=rfl
theorem agW{e:Nat->Option AV}{src dst:TypeId}{x:Operand}:bZ P C cp e g (.convert src dst x)=(aB e x).bind (uh P src dst):=rfl
theorem agQ{e:Nat->Option AV}{t:TypeId}{x:Operand}:bZ P C cp e g (.box t x)=(aB e x).bind DV:=rfl
theorem agY{e:Nat->Option AV}{t i:Nat}{x:Operand}:bZ P C cp e g (.field t x i)=(aB e x).bind (wV P t i):=rfl
theorem ag6{e:Nat->Option AV}{t:TypeId}{x y:Operand}:bZ P C cp e g (.makeSlice t x y)=(aB e x).bind λa=>(aB e y).bind λb=>uq P t a b:=rfl
theorem ahb{e:Nat->Option AV}{t:TypeId}{x:Operand}{lo hi}:bZ P C cp e g (.slice t x lo hi none)=(aB e x).bind λa=>(qf (aB e) lo).bind λl=>(qf (aB e) hi).bind λr=>lg P t g a l r:=rfl
theorem agX{e:Nat→Option AV}{i:Nat}{x:Operand}:bZ P C cp e g (.extract x i)=(aB e x).bind (Rt i):=by
  show((aB e x).bind fun a=>match a with
    | .tuple xs=>xs[i]?
    |_=>none)=_
  rfl
theorem ag9{e:Nat→Option AV}{x:Operand}:bZ P C cp e g (.nilCheck x)=(aB e x).bind (LY g):=by
  show((aB e x).bind fun y=>match y with
    | .ptr id _ ext=>if live g id ext=true then some y else none
    | .ay _ _=>some y
    | .fn _ _ _=>some y
    |_=>none)=_
  congr 1
  funext y
  cases y <;> try rfl
  rename_i id off ext
  have: ∀ b,g id=b→(if live g id ext=true then some (AV.ptr id off ext)else none)=b.bind (xw (.ptr id off ext) ext):=fun b hb=>by
    unfold live
    rw[hb]
    cases b <;> rfl
  exact this _ rfl
theorem ag7{e:Nat->Option AV}{f:FuncId}{first cap:List Operand}:bZ P C cp e g (.makeFunc (.func f) ⟨first⟩ ⟨cap⟩)=(aZ (aB e) first).bind λa=>(aZ (aB e) cap).bind λb=>some (.fn f a b):=rfl
theorem agM{e:Nat→Option AV}{t:TypeId}{z:List AV}(hz:dU P t=some z):bZ P C cp e g (.alloc t)=some (.newbx z):=by
  show(dU P t).bind _=_
  rw[hz];rfl
theorem ag5{e:Nat→Option AV}{x y:Operand}{ts}:bZ P C cp e g (.call ⟨.builtin .min,⟨[x,y]⟩,ts⟩)=(aB e x).bind fun a=>(aB e y).bind fun b=>jh P .min ts [a,b]:=by
  simp only[bZ,aq,aZ]
  cases aB e x <;> cases aB e y <;> rfl
theorem ag4{e:Nat→Option AV}{x y:Operand}{ts}:bZ P C cp e g (.call ⟨.builtin .max,⟨[x,y]⟩,ts⟩)=(aB e x).bind fun a=>(aB e y).bind fun b=>jh P .max ts [a,b]:=by
  simp only[bZ,aq,aZ]
  cases aB e x <;> cases aB e y <;> rfl
theorem au7{id:Id}{d:Nat}{xs:List AV}:names id (d+1) (.tuple xs)=xs.any (names id d):=rfl
theorem ayQ{k:Nat}:shrink prot k e h=(e.get k).bind (Fg prot k e h):=rfl
theorem ayP{k n' ext:Nat}{id:Id}:Fg prot k e h (.own id 0 n' ext)=(h.get id).bind (Ff prot k e h id n' ext):=rfl
theorem ayN{k n' e2 sz:Nat}{id:Id}{cells:List AV}(h1:n'≤e2):Ff prot k e h id n' e2 (.sl true true sz e2 cells)=
    if(mP prot id || (ni id (e.drop [k]) || pY id h))=true then none else some (e.set k (.own id 0 n' n'),h.set id (.sl true true sz n' (cells.take (n'*sz)))):=by
  simp only[Ff]
  cases mP prot id <;> cases ni id (e.drop [k]) <;> cases pY id h <;> simp[h1]
theorem at6{l:List α}{k:Nat}:(lm f l).take (k*1)=lm f (l.take k):=by simp[lm]
theorem Hl{P:Program}{t el:TypeId}{sz by_:Nat}(htv:aX P t=some (.slice el sz by_)):jh P .cap #[t] [.v (.slice none 0 0)]=some (.v (.int .i64 0)):=by
  simp[jh,htv]
theorem afH{d:Option Tmp}{x:Operand}{ts}:dw P C cp ci lvl e h d (.call ⟨.builtin .cap,⟨[x]⟩,ts⟩)=qo lvl (d.getD 0) h ((aB e.get x).bind fun a=>jh P .cap ts [a]):=by
  rw[kw (λ_ _ _ h=>by cases h) rfl]
  simp only[aq,aZ]
  cases aB e.get x <;> rfl
theorem agV{e:Nat→Option AV}{x:Operand}{ts}:bZ P C cp e g (.call ⟨.builtin .cap,⟨[x]⟩,ts⟩)=(aB e x).bind fun a=>jh P .cap ts [a]:=by
  simp only[bZ,aq,aZ]
  cases aB e x <;> rfl
def CG(l r:Nat):Option AV:=if l=0/\r=0 then some (.v (.slice none 0 0))else none
theorem ayW:CG 0 0=some (.v (.slice none 0 0)):=rfl
theorem GH{P:Program}{t el:TypeId}{sz by_:Nat}{lo hi:Option AV}{g:Id→Option ak}(htv:aX P t=some (.slice el sz by_)):lg P t g (.v (.slice none 0 0)) lo hi=(iP lo 0).bind fun l=>(iP hi 0).bind (CG l):=by
  unfold lg
  rw[htv]
  rfl
theorem atH{P:Program}{t:TypeId}{s:ByteArray}(htv:aX P t=some .str):jh P .len #[t] [.v (.string s)]=some (.v (.int .i64 s.size)):=by simp[jh,htv]
def Gu(s:ByteArray)(i:Int):Option AV:=if 0<=i then(s[i.toNat]?).bind λb=>some (.v (.int .u8 b.toNat))else none
theorem asx{P:Program}{t:TypeId}{s:ByteArray}{i:Int}(htv:aX P t=some .str):wE P t (.v (.string s)) i=Gu s i:=by
  unfold wE
  rw[htv]
  rfl
theorem afO{d:Option Tmp}{t:TypeId}{x y:Operand}:dw P C cp ci lvl e h d (.index t x y)=qo lvl (d.getD 0) h ((aB e.get x).bind λa=>(aB e.get y).bind λb=>(mF b).bind λn=>wE P t a n):=kw (λ_ _ _ h=>by cases h) rfl
theorem ag0{e:Nat->Option AV}{t:TypeId}{x y:Operand}:bZ P C cp e g (.index t x y)=(aB e x).bind λa=>(aB e y).bind λb=>(mF b).bind λn=>wE P t a n:=rfl
def sat?(s:ByteArray)(i:Int):Option Int:=if 0<=i then(s[i.toNat]?).bind λb=>some (b.toNat:Int)else none
theorem J.sat{β:Type}{m:Option AV}{enc:β→AV}{s:ByteArray}{i:Int}{k:Int→Option β}(a: ∀ r,Gu s i=Option.some (.v (.int .u8 r))→J m (k r) enc):J m ((sat? s i).bind k) enc:=
  J.bind fun r hr=>a r (by
    unfold sat? at hr
    unfold Gu
    split at hr
    · rename_i h0
      rw[if_pos h0]
      cases hs:s[i.toNat]? with
      |none=>rw[hs]at hr;cases hr
      |some b=>rw[hs]at hr;injection hr with hr;subst hr;rfl
    · cases hr)
theorem MQ{α:Type}{f:α→AV}{x0:α}{z:List AV}(hz:[f x0]=z)(k:Nat):(List.replicate k z).flatten=lm f (List.replicate k x0):=by
  subst hz
  induction k with
  |zero=>rfl
  |succ k ih=>rw[List.replicate_succ,List.replicate_succ,List.flatten_cons,ih];rfl
theorem Gy{P:Program}{t t' el:TypeId}{esz by_ d:Nat}{k kx:IntKind}{z ys:List AV}{m:Int}(hne: ¬ t=t')(htv:aX P t=some (.slice el esz by_))(htv':aX P t'=some (.int k))(hz:dU P el=some z)(hl:z.length=esz)(hp:0<esz)
    (h0:0<=m) (h1:m<=140737488355328) (h2:m*by_<=140737488355328) (hy:(List.replicate m.toNat z).flatten=ys):rY P lvl d t t' h (.v (.slice none 0 0)) (.v (.int kx m))=qo lvl d h (some (.fresh esz m.toNat ys)):=by
  subst hy
  unfold rY
  rw[if_neg hne,htv,htv',ai,ai]
  unfold Gz
  simp only[hz,ai]
  rw[if_pos ⟨hl,hp,h0,h1,h2⟩]
  rfl
theorem ayO{k:Nat}:Fg prot k e h (.v (.slice none 0 0))=some (e,h):=rfl
theorem avU{k sz c:Nat}:BU lvl k sz c e h=(e.get k).bind (Me lvl k sz c h):=rfl
theorem avT{k sz c:Nat}{id:Id}:Me lvl k sz c h (.ptr id 0 0)=(h.get id).bind (Md lvl k sz c h id):=rfl
theorem avP{k sz c:Nat}{id:Id}{cells:List AV}:Md lvl k sz c h id (.bx true cells)=(cells[c]?).bind (BV lvl k sz c h id cells):=rfl
theorem avQ{k sz c:Nat}{id:Id}{cells:List AV}(hs:0<sz)(hs2: ¬ 500<sz):BV lvl k sz c h id cells (.v (.slice none 0 0))=(h.new (lvl,k,78+c) (.sl true true sz 0 [])).bind fun h1=>some (h1.set id (.bx true (cells.set c (.own (lvl,k,78+c) 0 0 0)))):=by
  show(if sz=0 then _ else(h.new (lvl,k,78+c) (if 500<sz then _ else _)).bind _)=_
  rw[if_neg ae,if_neg hs2]
theorem ags{d esz by_:Nat}{id:Id}{n:Nat}{cells ys:List AV}{y:AV}(h6:1<esz)(h3:n+1≤140737488355328)(h4:(n+1)*by_≤140737488355328):
    lS lvl d esz by_ h 1 (y::ys) id n n (.sl true true esz n cells)=if(y::ys).length=1*esz then(if(y::ys).all AV.one=true then some (.own id 0 (n+1) (n+1),h.set id (.sl true true esz (n+1) (cells++y::ys)))else none)else none:=by
  by_cases h2:(y::ys).length=1*esz
  · rw[if_pos h2]
    by_cases h5:(y::ys).all AV.one=true
    · rw[if_pos h5];exact yj h2 h3 h4 h5
    · rw[if_neg h5]
      simp only[lS]
      rw[if_neg (λhh=>h5 hh.2.2.2.2.2.2)]
  · rw[if_neg h2]
    simp only[lS]
    rw[if_neg (λhh=>h2 hh.2.2.2.1)]
def aa9(off m sz ext:Nat)(cs:List AV):Option (Nat×List AV):=some (m,cut cs off m sz ext)
theorem auS{off m sz ext:Nat}{cs:List AV}:aa9 off m sz ext cs=some (m,cut cs off m sz ext):=rfl
theorem auR{off m ext:Nat}{r:Bool}{sz:Nat}{cells:List AV}:EP g off m ext (.sl false r sz ext cells)=(aZ (aG g 3) cells).bind (aa9 off m sz ext):=by
  simp only[EP,JY,zo,if_true]
  cases aZ (aG g 3) cells <;> rfl
theorem arM{r:Bool}{sz ext:Nat}{cells:List AV}:Lm g (some (.sl false r sz ext cells))=(cells.map (aW g 3)).flatten:=rfl
def RH:=af @Int.toNat_zero<|af @anD<|af @agU<|af @ags<|af @auS<|af @auR<|af @arM<|af @apP<|af @apN<|af @ayO<|af @ap4<|af @avU<|af @avT<|af @avP<|af @avQ<|af @al8<|af @ayW<|af @afO<|af @ag0<|af @ap6<|af @aqc<|af @ayQ<|af @ayP<|af @ayN<|af @at6<|af @afH<|af @agV<|af @List.take_zero.{0}<|af @Nat.zero_mul<|af @au7<|af @agP<|af @agR<|af @agS<|af @ayD<|af @ayE<|af @agW<|af @agQ<|af @agY<|af @ag6<|af @ahb<|af @agX<|af @ag9<|af @ag7<|af @ag5<|af @ag4<|af @ah5<|af @azl<| @afX
theorem anE{dd:Nat}{as:List AV}{k:FuncId}{first cap:List AV}(hi:C.inl k=true):yZ C cp ci lvl dd h (some as) (.fn k first cap)=ci (lvl+1) k (first++as++cap) h:=by simp[yZ,hi]
def RI:=af @anE<|af @atO<|af @auc<|af @aub<|af @aue<|af @aud<|af @asH<|af @asG<|af @akF<|af @akG<|af @afQ<|af @yg<|af @yw<|
  af @ali<|af @agr<|af @ac5<|af @ac4<|af @abo<|af @abn<|af @abp<|af @Nat.sub_zero<| @Nat.zero_mul
variable {β:Type} {s:Option β} {enc:β->AV}
def BF(P:Program)(rs:List ResultVar)(h0:Heap)(e:Env)(h':Heap):Option (AV×Heap):=(aZ (mf P e h') rs).bind λrs=>some (one rs,sweep (keys h0) [(0,one rs)] h')
theorem J.aaT{τ:Type}{rs:List ResultVar}{nx:AV×Heap→Option AV}{h0 h':Heap}{st:τ→AV×Heap}{fj:τ→Option β}(hj: ∀ t,J (nx (st t)) (fj t) enc){t:τ}(hv:BF P rs h0 e h'=Option.some (st t)):J (kin P rs h0 nx .ret e h') (fj t) enc:=by
  refine J.eq ?_ (hj t)
  rw[aaR]
  unfold BF at hv
  cases hx:aZ (mf P e h') rs with
  |none=>rw[hx]at hv;cases hv
  |some r=>rw[hx]at hv;simp only[ai,LD]at hv ⊢;injection hv with hv;rw[hv]
theorem J.asL{τ:Type}{rs:List ResultVar}{nx:AV×Heap->Option AV}{h0 h':Heap}{st:τ->AV×Heap}{fj:τ->Option β}(hj: ∀ t,J (nx (st t)) (fj t) enc){t:τ}(hv:BF P rs h0 e h'=Option.some (st t)):J (kin P rs h0 nx .normal e h') (fj t) enc:=J.aaT hj hv
def aaO(h0 h':Heap)(rs:List AV):Option (AV×Heap):=some (one rs,sweep (keys h0) [(0,one rs)] h')
theorem aaQ{rs:List ResultVar}{h0 h':Heap}:BF P rs h0 e h'=(aZ (mf P e h') rs).bind (aaO h0 h'):=rfl
theorem aaP{h0 h':Heap}{rs:List AV}:aaO h0 h' rs=some (one rs,sweep (keys h0) [(0,one rs)] h'):=rfl
end
end Go.Av
