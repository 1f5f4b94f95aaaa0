/- Loops stepped through round by round; lists told one by one; rows whose elements hold rows of one's own. Conditions: those that each names. -/
import Derived.Test.YtnpnomlnajgbcaaGreatAu
set_option linter.unusedVariables false
set_option linter.defProp false
namespace Go.Av
def un{β:Type}(n:Nat)(f:Nat→Option β):Option β:=match n with
  |0=>none
  |k+1=>f k
def l2{α β:Type}(l:List α)(f:α→α→Option β):Option β:=match l with
  |[a,b]=>f a b
  |_=>none
def l3{α β:Type}(l:List α)(f:α→α→α→Option β):Option β:=match l with
  |[a,b,c]=>f a b c
  |_=>none
section
variable {β:Type} {m:Option AV} {enc:β->AV}
theorem J.l2{α:Type}{l:List α}{f:α→α→Option β}(a: ∀ x y,l=[x,y]→J m (f x y) enc):J m (l2 l f) enc:=fun b h=>by
  unfold Go.Av.l2 at h
  split at h
  · exact a _ _ rfl b h
  · cases h
theorem J.l3{α:Type}{l:List α}{f:α→α→α→Option β}(a: ∀ x y z,l=[x,y,z]→J m (f x y z) enc):J m (l3 l f) enc:=fun b h=>by
  unfold Go.Av.l3 at h
  split at h
  · exact a _ _ _ rfl b h
  · cases h
variable {P:Program} {C:Cfg} {cp:CallP} {ci:CallI} {lvl:Nat} {prot:List Id} {D:List (Nat×List Nat)} {n:Nat} {K:KK}
variable {e:Env} {h:Heap} {fs:List Fr} {c:Code}
theorem J.un{k:Nat}{f:Nat→Option β}(g: ∀ k,J (go P C cp ci lvl prot D n K c e (sweep prot e h) (.loop c k::fs)) (f k) enc):J (gl P C cp ci lvl prot D n K c k e h fs) (un k f) enc:=by
  cases k with
  |zero=>exact J.none
  | succ k=>
    refine J.eq ?_ (g k)
    unfold gl
    simp only[aloop,go]
    cases exec P C cp ci lvl prot D n c e (sweep prot e h)with
    |none=>rfl
    |some r=>rcases r with⟨_|_|_,_,_⟩ <;> rfl
end
theorem wkl:wk .i64 1=1/\wk .i64 2=2/\wk .i64 3=3/\wk .i64 4=4:=by decide
def appO1(h:Heap)(id:Id)(n esz by_:Nat)(idy:Id)(m:Nat):Blk→Option (AV×Heap)
  | b =>(h.get idy).bind fun b2=>match b,b2 with
    | .sl false true sz ext' cells,.sl false _ szy exty' ys=>if ext'=n∧n=n∧sz=esz∧szy=esz∧exty'=m∧m=m∧n+m≤2 ^ 47∧(n+m)*by_≤2 ^ 47∧ys.all AV.one=true then
        some (.own id 0 (n+m) (n+m),h.set id (.sl false true sz (n+m) (cells++ys)))else none
    |_,_=>none
def appO2(h:Heap)(id:Id)(n esz by_ m:Nat)(cells:List AV):Blk→Option (AV×Heap)
  | .sl false _ szy exty' ys=>if szy=esz∧exty'=m∧n+m≤2 ^ 47∧(n+m)*by_≤2 ^ 47∧ys.all AV.one=true then
        some (.own id 0 (n+m) (n+m),h.set id (.sl false true esz (n+m) (cells++ys)))else none
  |_=>none
section
variable {lvl d esz by_ m n e:Nat} {h0 h:Heap} {y:AV} {ys cells:List AV} {id idy:Id} {w:Bool}
theorem appJ_op{n ext sz:Nat}:appJ lvl d esz by_ h0 h y m ys id n ext (.sl false true sz e cells)=appO h0 id n ext esz by_ y:=rfl
theorem appO_at:appO h id n n esz by_ (.own idy 0 m m)=(h.get id).bind (appO1 h id n esz by_ idy m):=rfl
theorem appO1_at:appO1 h id n esz by_ idy m (.sl false true esz n cells)=(h.get idy).bind (appO2 h id n esz by_ m cells):=by
  unfold appO1
  cases h.get idy with
  |none=>rfl
  | some b=>cases b with
    |bx=>rfl
    |sl cl w sz e ys=>cases cl <;> simp[appO2]
theorem appO2_at(h3:n+m≤140737488355328)(h4:(n+m)*by_≤140737488355328)(h5:ys.all AV.one=true):appO2 h id n esz by_ m cells (.sl false w esz m ys)=some (.own id 0 (n+m) (n+m),h.set id (.sl false true esz (n+m) (cells++ys))):=by
  show(if esz=esz/\m=m/\n+m<=2 ^ 47/\(n+m)*by_<=2 ^ 47/\ys.all AV.one=true then _ else none)=_
  rw[if_pos ⟨rfl,rfl,by omega,by omega,h5⟩]
end
def frF(cl:Bool)(lvl d:Nat)(h:Heap)(sz m:Nat)(xs:List AV)(k:Nat):Option Blk→Option (AV×Heap)
  |none=>some (.own (lvl,d,k) 0 m m,Heap.set h (lvl,d,k) (.sl cl true sz m xs))
  |some _=>none
def frD(cl:Bool)(lvl d:Nat)(h:Heap)(sz m:Nat)(xs:List AV)(k:Nat):Option (AV×Heap):=frF cl lvl d h sz m xs k (h.get (lvl,d,k))
def frE(h:Heap)(lvl d n k:Nat):Option Blk→Nat
  |none=>k
  |some _=>freeN h lvl d n (k+100)
section
variable {cl:Bool} {lvl d sz m k n:Nat} {h:Heap} {xs:List AV} {b:Blk}
theorem freB_some:freB cl lvl d k h sz m xs (some b)=frD cl lvl d h sz m xs (freeN h lvl d 8 k):=by
  show((h.new (lvl,d,freeN h lvl d 8 k) (.sl cl true sz m xs)).bind λh'=>some (AV.own (lvl,d,freeN h lvl d 8 k) 0 m m,h'))=frF cl lvl d h sz m xs (freeN h lvl d 8 k) (h.get (lvl,d,freeN h lvl d 8 k))
  unfold Heap.new
  cases h.get (lvl,d,freeN h lvl d 8 k) <;> rfl
theorem freeN_s:freeN h lvl d (n+1) k=frE h lvl d n k (h.get (lvl,d,k)):=by
  show(if(Heap.get h (lvl,d,k)).isNone=true then k else freeN h lvl d n (k+100))=_
  cases h.get (lvl,d,k) <;> rfl
theorem frE_n:frE h lvl d n k none=k:=rfl
theorem frE_s:frE h lvl d n k (some b)=freeN h lvl d n (k+100):=rfl
theorem frD_at:frD cl lvl d h sz m xs k=frF cl lvl d h sz m xs k (h.get (lvl,d,k)):=rfl
theorem frF_n:frF cl lvl d h sz m xs k none=some (.own (lvl,d,k) 0 m m,Heap.set h (lvl,d,k) (.sl cl true sz m xs)):=rfl
end
section
variable {g:Id->Option Blk} {d m ext off sz x:Nat} {id:Id} {us:List Id} {cells c:List AV} {r b:Bool}
theorem tfB_op:tfB g d id off m ext (some (.sl false r sz x c))=borrowed g (d+1) (.own id off m ext):=rfl
theorem erB_frz:erB g (d+1) id 0 m m us (.sl false false sz m cells)=if((cells.map (borrowed g d)).flatten).all (frozenId g)=true then(optL (exportV g d) cells).bind fun cs=>some (.arr m cs,us)else none:=by
  show(if m=m/\((cells.map (borrowed g d)).flatten).all (frozenId g)=true then(cells.mapM (exportV g d)).bind λcs=>some (AV.arr m (cut cs 0 m sz m),us)else none)=_
  rw[mapM_optL]
  by_cases h:((cells.map (borrowed g d)).flatten).all (frozenId g)=true
  · rw[if_pos ⟨rfl,h⟩,if_pos h]
    cases optL (exportV g d) cells with
    |none=>rfl
    |some cs=>show some (AV.arr m (cut cs 0 m sz m),us)=_;rw[cut_at rfl];rfl
  · rw[if_neg (λq=>h q.2),if_neg h]
def fzQ:Option Blk→Bool
  |some b=> !b.rw
  |none=>false
theorem fz_at{i:Id}:frozenId g i=fzQ (g i):=by
  unfold frozenId fzQ
  cases g i <;> rfl
theorem fzQ_sl:fzQ (some (.sl b r sz x cells))= !r:=rfl
theorem alI_cons{i:Id}{l:List Id}{f:Id->Bool}:(i::l).all f=(f i&&l.all f):=List.all_cons
theorem alI_nil{f:Id->Bool}:([]:List Id).all f=true:=rfl
end
def RU3:=And.intro @alI_cons<|And.intro @alI_nil<|And.intro @tfB_op<|And.intro @erB_frz<|And.intro @fz_at<|And.intro @fzQ_sl<|And.intro @appJ_op<|And.intro @appO_at<|And.intro @appO1_at<|And.intro @appO2_at<|And.intro @freB_some<|And.intro @freeN_s<|And.intro @frE_n<|And.intro @frE_s<|And.intro @frD_at @frF_n
end Go.Av
