/- Loops stepped through round by round; lists told one by one; rows whose elements hold rows of one's own. Conditions: those that each names. -/
import Derived.Test.YtiagecndhhinfaaGreatAu
set_option linter.unusedVariables false
set_option linter.defProp false
namespace Go.Av
def un{β:Type}(n:Nat)(f:Nat→Option β):Option β:=match n with
  |0=>none
  |k+1=>f k
def l2{α β:Type}(l:List α)(f:α→α→Option β):Option β:=match l with
  |[a,b]=>f a b
  |_=>none
def l3{α β:Type}(l:List α)(f:α→α→α→Option β):Option β:=match l with
  |[a,b,c]=>f a b c
  |_=>none
section
variable {β:Type} {m:Option AV} {enc:β->AV}
theorem J.l2{α:Type}{l:List α}{f:α→α→Option β}(a: ∀ x y,l=[x,y]→J m (f x y) enc):J m (l2 l f) enc:=fun b h=>by
  unfold Go.Av.l2 at h
  split at h
  · exact a _ _ rfl b h
  · cases h
theorem J.l3{α:Type}{l:List α}{f:α→α→α→Option β}(a: ∀ x y z,l=[x,y,z]→J m (f x y z) enc):J m (l3 l f) enc:=fun b h=>by
  unfold Go.Av.l3 at h
  split at h
  · exact a _ _ _ rfl b h
  · cases h
variable {P:Program} {C:bG} {cp:aC} {ci:bz} {lvl:Nat} {prot:List Id} {D:List (Nat×List Nat)} {n:Nat} {K:KK}
variable {e:Env} {h:Heap} {fs:List Fr} {c:Code}
theorem J.un{k:Nat}{f:Nat→Option β}(g: ∀ k,J (go P C cp ci lvl prot D n K c e (sweep prot e h) (.loop c k::fs)) (f k) enc):J (gl P C cp ci lvl prot D n K c k e h fs) (un k f) enc:=by
  cases k with
  |zero=>exact J.none
  | succ k=>
    refine J.eq ?_ (g k)
    unfold gl
    simp only[tK,go]
    cases exec P C cp ci lvl prot D n c e (sweep prot e h)with
    |none=>rfl
    |some r=>rcases r with⟨_|_|_,_,_⟩ <;> rfl
theorem J.squ{a b:Code}{k:Nat}{f:Nat->Option β}(j:J (go P C cp ci lvl prot D n K a e h (.seq b::fs)) (Go.Av.un k f) enc):J (go P C cp ci lvl prot D n K (.seq a b) e h fs) (Go.Av.un k f) enc:=J.eq gG j
theorem J.rqu{b:Code}{k:Nat}{f:Nat->Option β}(j:J (go P C cp ci lvl prot D n K b e h fs) (Go.Av.un k f) enc):J (ret P C cp ci lvl prot D n K (.seq b::fs) .normal e h) (Go.Av.un k f) enc:=J.eq gq j
theorem J.gu{k:Nat}{f:Nat->Option β}(j:J m (Go.Av.un k f) enc):J m (Go.Av.un k f) enc:=j
end
theorem wkl:wk .i64 1=1/\wk .i64 2=2/\wk .i64 3=3/\wk .i64 4=4:=by decide
def Ph(h:Heap)(id:Id)(n esz by_:Nat)(idy:Id)(m:Nat):ak→Option (AV×Heap)
  | b =>(h.get idy).bind fun b2=>match b,b2 with
    | .sl false true sz ext' cells,.sl false _ szy exty' ys=>if ext'=n∧n=n∧sz=esz∧szy=esz∧exty'=m∧m=m∧n+m≤2 ^ 47∧(n+m)*by_≤2 ^ 47∧ys.all AV.one=true then
        some (.own id 0 (n+m) (n+m),h.set id (.sl false true sz (n+m) (cells++ys)))else none
    |_,_=>none
def Pi(h:Heap)(id:Id)(n esz by_ m:Nat)(cells:List AV):ak→Option (AV×Heap)
  | .sl false _ szy exty' ys=>if szy=esz∧exty'=m∧n+m≤2 ^ 47∧(n+m)*by_≤2 ^ 47∧ys.all AV.one=true then
        some (.own id 0 (n+m) (n+m),h.set id (.sl false true esz (n+m) (cells++ys)))else none
  |_=>none
section
variable {lvl d esz by_ m n e:Nat} {h0 h:Heap} {y:AV} {ys cells:List AV} {id idy:Id} {w:Bool}
theorem agx{n ext sz:Nat}:appJ lvl d esz by_ h0 h y m ys id n ext (.sl false true sz e cells)=DJ h0 id n ext esz by_ y:=rfl
theorem agC:DJ h id n n esz by_ (.own idy 0 m m)=(h.get id).bind (Ph h id n esz by_ idy m):=rfl
theorem agA:Ph h id n esz by_ idy m (.sl false true esz n cells)=(h.get idy).bind (Pi h id n esz by_ m cells):=by
  unfold Ph
  cases h.get idy with
  |none=>rfl
  | some b=>cases b with
    |bx=>rfl
    |sl cl w sz e ys=>cases cl <;> simp[Pi]
theorem agB(h3:n+m≤140737488355328)(h4:(n+m)*by_≤140737488355328)(h5:ys.all AV.one=true):Pi h id n esz by_ m cells (.sl false w esz m ys)=some (.own id 0 (n+m) (n+m),h.set id (.sl false true esz (n+m) (cells++ys))):=by
  show(if esz=esz/\m=m/\n+m<=2 ^ 47/\(n+m)*by_<=2 ^ 47/\ys.all AV.one=true then _ else none)=_
  rw[if_pos ⟨rfl,rfl,by omega,by omega,h5⟩]
end
def KH(cl:Bool)(lvl d:Nat)(h:Heap)(sz m:Nat)(xs:List AV)(k:Nat):Option ak→Option (AV×Heap)
  |none=>some (.own (lvl,d,k) 0 m m,Heap.set h (lvl,d,k) (.sl cl true sz m xs))
  |some _=>none
def frD(cl:Bool)(lvl d:Nat)(h:Heap)(sz m:Nat)(xs:List AV)(k:Nat):Option (AV×Heap):=KH cl lvl d h sz m xs k (h.get (lvl,d,k))
def RZ(h:Heap)(lvl d n k:Nat):Option ak→Nat
  |none=>k
  |some _=>nR h lvl d n (k+100)
section
variable {cl:Bool} {lvl d sz m k n:Nat} {h:Heap} {xs:List AV} {b:ak}
theorem aoR:uZ cl lvl d k h sz m xs (some b)=frD cl lvl d h sz m xs (nR h lvl d 8 k):=by
  show((h.new (lvl,d,nR h lvl d 8 k) (.sl cl true sz m xs)).bind λh'=>some (AV.own (lvl,d,nR h lvl d 8 k) 0 m m,h'))=KH cl lvl d h sz m xs (nR h lvl d 8 k) (h.get (lvl,d,nR h lvl d 8 k))
  unfold Heap.new
  cases h.get (lvl,d,nR h lvl d 8 k) <;> rfl
theorem aoS:nR h lvl d (n+1) k=RZ h lvl d n k (h.get (lvl,d,k)):=by
  show(if(Heap.get h (lvl,d,k)).isNone=true then k else nR h lvl d n (k+100))=_
  cases h.get (lvl,d,k) <;> rfl
theorem aoN:RZ h lvl d n k none=k:=rfl
theorem aoO:RZ h lvl d n k (some b)=nR h lvl d n (k+100):=rfl
theorem aoM:frD cl lvl d h sz m xs k=KH cl lvl d h sz m xs k (h.get (lvl,d,k)):=rfl
theorem aoP:KH cl lvl d h sz m xs k none=some (.own (lvl,d,k) 0 m m,Heap.set h (lvl,d,k) (.sl cl true sz m xs)):=rfl
end
section
variable {g:Id->Option ak} {d m ext off sz x:Nat} {id:Id} {us:List Id} {cells c:List AV} {r b:Bool}
theorem azQ:NE g d id off m ext (some (.sl false r sz x c))=aW g (d+1) (.own id off m ext):=rfl
theorem aml:Bh g (d+1) id 0 m m us (.sl false false sz m cells)=if((cells.map (aW g d)).flatten).all (qY g)=true then(aZ (aG g d) cells).bind fun cs=>some (.arr m cs,us)else none:=by
  show(if m=m/\((cells.map (aW g d)).flatten).all (qY g)=true then(cells.mapM (aG g d)).bind λcs=>some (AV.arr m (cut cs 0 m sz m),us)else none)=_
  rw[zo]
  by_cases h:((cells.map (aW g d)).flatten).all (qY g)=true
  · rw[if_pos ⟨rfl,h⟩,if_pos h]
    cases aZ (aG g d) cells with
    |none=>rfl
    |some cs=>show some (AV.arr m (cut cs 0 m sz m),us)=_;rw[Yh rfl];rfl
  · rw[if_neg (λq=>h q.2),if_neg h]
def Sj:Option ak→Bool
  |some b=> !b.rw
  |none=>false
theorem aoZ{i:Id}:qY g i=Sj (g i):=by
  unfold qY Sj
  cases g i <;> rfl
theorem aoY:Sj (some (.sl b r sz x cells))= !r:=rfl
theorem aeU{i:Id}{l:List Id}{f:Id->Bool}:(i::l).all f=(f i&&l.all f):=List.all_cons
theorem aeV{f:Id->Bool}:([]:List Id).all f=true:=rfl
end
theorem avR{lvl k sz c:Nat}{h:Heap}{id:Id}{cells:List AV}(hs:500<sz):BV lvl k sz c h id cells (.v (.slice none 0 0))=(h.new (lvl,k,78+c) (.sl false true (sz - 500) 0 [])).bind fun h1=>some (h1.set id (.bx true (cells.set c (.own (lvl,k,78+c) 0 0 0)))):=by
  show(if sz=0 then _ else(h.new (lvl,k,78+c) (if 500<sz then _ else _)).bind _)=_
  rw[if_neg ae,if_pos hs]
def RU3:=af @Ef<|af @Z5<|af @avR<|af @aeU<|af @aeV<|af @azQ<|af @aml<|af @aoZ<|af @aoY<|af @agx<|af @agC<|af @agA<|af @agB<|af @aoR<|af @aoS<|af @aoN<|af @aoO<|af @aoM @aoP
end Go.Av
