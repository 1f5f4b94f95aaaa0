/- The interpreter's equations, second part: places, rows, calls, results. Conditions: those that each names. -/
import Derived.Test.YteafmomjfnlkgaaGreatSh3
set_option linter.unusedVariables false
namespace Go.Av
section
variable {P:Program} {C:bn} {cp:af} {ci:bg} {lvl n:Nat} {prot:List Id} {D:List (Nat×List Nat)} {e:Env} {h:Heap} {all os:List Oper}
theorem axI{t el:TypeId}{sz by_ m:Nat}{xs:List AV}{i:Int}{g:Id→Option ax}(htv:aP P t=some (.slice el sz by_))(h0:0≤i)(h1:i<m):oH P t g (.arr m xs) i=some (.aF xs (i.toNat*sz)):=by
  simp[oH,htv,h0,h1]
def QR(id:Id)(off m ext sz:Nat)(i:Int):ax→Option AV
  | .sl _ _ sz' ext' _=>if sz'=sz/\ext'=ext/\0<=i/\i<m then some (.ptr id (off+i.toNat*sz) ext)else none
  |_=>none
theorem aHz{t el:TypeId}{sz by_ off m ext:Nat}{id:Id}{i:Int}{g:Id→Option ax}(htv:aP P t=some (.slice el sz by_)):
    oH P t g (.own id off m ext) i=(g id).bind (QR id off m ext sz i):=by
  simp only[oH,htv,ob_some]
  cases g id with
  |none=>rfl
  |some b=>cases b <;> rfl
theorem aGd{id:Id}{off m ext sz:Nat}{i:Int}{cl rw cells}(h0:0≤i)(h1:i<m):QR id off m ext sz i (.sl cl rw sz ext cells)=some (.ptr id (off+i.toNat*sz) ext):=by
  simp[QR,h0,h1]
theorem aHC{t:TypeId}{g:Id->Option ax}{xs:List AV}{off:Nat}:o6 P g t (.aF xs off)=part P xs t off:=rfl
def IU(P:Program)(t:TypeId)(off ext:Nat)(b:ax):Option AV:=if b.ext=ext then part P b.cells t off else none
theorem aL8{t:TypeId}{g:Id->Option ax}{id:Id}{off ext:Nat}:o6 P g t (.ptr id off ext)=(g id).bind (IU P t off ext):=rfl
theorem aeU{k x}:lT (.v (.int k x))=some x:=rfl
theorem aEr{m xs}:zq (.arr m xs)=some m:=rfl
theorem av2{i o m x}:zq (.own i o m x)=some m:=rfl
theorem aAZ{c}:zq (.v (.slice none 0 c))=some 0:=rfl
theorem alm{x}:AV.cells (.v x)=[.v x]:=rfl
def mf(h:Heap)(id:Id)(off ext:Nat)(x:AV):ax→Option (AV×Heap)
  | .sl true true sz e cells=>if e=ext/\off<cells.length then some (.v undef,h.set id (.sl true true sz e (cells.set off x)))else none
  | .sl false true sz e cells=>if e=ext/\off<cells.length then some (.v undef,h.set id (.sl false true sz e (cells.set off x)))else none
  | .bx true cells=>if ext=0/\off<cells.length then some (.v undef,h.set id (.bx true (cells.set off x)))else none
  |_=>none
def iK(P:Program)(t:TypeId)(h:Heap)(p y:AV):Option (AV×Heap):=if y.cells.length=bi P t/\0<bi P t then(jY h p y).bind λh'=>some (.v undef,h')else none
theorem aHo{t:TypeId}{a x:Operand}{d:Option Tmp}:bW P C cp ci lvl e h d (.store t a x)=(az e.get a).bind λp=>(az e.get x).bind λy=>iK P t h p y:=rfl
theorem aEd{t:TypeId}{id:Id}{off ext:Nat}{k:IntKind}{z:Int}(hsz:bi P t=1):iK P t h (.ptr id off ext) (.v (.int k z))=(h.get id).bind (mf h id off ext (.v (.int k z))):=by
  unfold iK
  rw[if_pos ⟨by rw[hsz];rfl,by rw[hsz];exact Nat.one_pos⟩]
  cases hg:h.get id with
  |none=>simp[jY,hg]
  | some b=>
    rw[ob_some]
    have h1:([AV.v (.int k z)].mapM (aG h.get 4))=some [.v (.int k z)]:=by simp[aG]
    have h2:(([AV.v (.int k z)].map (aO h.get 4)).flatten)=[]:=by simp[aO]
    have e1: ∀ o c:Nat,(o+1<=c)=(o<c):=λ_ _=>rfl
    cases b with
    | bx rw cells=>
      have e0:((0:Nat)=ext)=(ext=0):=propext ⟨Eq.symm,Eq.symm⟩
      simp only[jY,hg,ob_some,alm,ax.ext,ax.cells,List.length_cons,List.length_nil,List.all_cons,List.all_nil,AV.one,Bool.and_self,and_true,Nat.zero_add,e1,e0]
      cases rw with
      |false=>by_cases hh:ext=0/\off<cells.length <;> simp[hh,mf]
      |true=>by_cases hh:ext=0/\off<cells.length <;> simp[hh,mf,putCells]
    | sl cl rw sz e cells=>
      simp only[jY,hg,ob_some,alm,ax.ext,ax.cells,List.length_cons,List.length_nil,List.all_cons,List.all_nil,AV.one,Bool.and_self,and_true,Nat.zero_add,e1,h1,h2,dH]
      cases cl <;> cases rw <;> by_cases hh:e=ext/\off<cells.length <;> simp[hh,mf,putCells]
def uJ (P:Program)(t:TypeId)(x y:AV):Option AV:=(lT x).bind fun n=>(lT y).bind fun c=>
      (aP P t).bind λtv=>match tv with
      | .slice el sz by_=>(dG P el).bind fun z=>
        if 0<=n/\n<=c/\c<=2 ^ 47/\c*by_<=2 ^ 47/\z.length=sz then some (.fresh sz n.toNat (List.replicate n.toNat z).flatten)else none
      |_=>none
theorem aya{t:TypeId}{d:Option Tmp}{x y:Operand}:bW P C cp ci lvl e h d (.makeSlice t x y)=qo lvl (d.getD 0) h ((az e.get x).bind λa=>(az e.get y).bind λb=>uJ P t a b):=arH
theorem alZ{t el:TypeId}{sz by_:Nat}{a c:Int}{k k':IntKind}{z:List AV}(htv:aP P t=some (.slice el sz by_))(hz:dG P el=some z)(hl:z.length=sz)
   (h0:0<=a) (h1:a<=c) (h2:c<=140737488355328) (h3:c*by_<=140737488355328):
   uJ P t (.v (.int k a)) (.v (.int k' c))=some (.fresh sz a.toNat (List.replicate a.toNat z).flatten):=by
  simp only[uJ,ob_some,aeU,htv,hz]
  rw[if_pos ⟨h0,h1,by omega,by omega,hl⟩]
theorem avv{a b c a' b' c':Nat}:(((a,b,c):Id)=(a',b',c'))=(a=a'/\b=b'/\c=c'):=by simp
theorem aJY{a b c a' b' c':Nat}:(((a,b,c):Id)==(a',b',c'))=(decide (a=a')&&decide (b=b')&&decide (c=c')):=by
  by_cases h1:a=a' <;> by_cases h2:b=b' <;> by_cases h3:c=c' <;> simp[h1,h2,h3]
def KE(g:Id→Option ax)(off m ext:Nat):ax→Option AV
  | .sl true _ sz e cells=>if e=ext then some (.arr m (cut cells off m sz e))else none
  | .sl false _ sz e cells=>if e=ext then(cells.mapM (aG g 3)).bind λcs=>some (.arr m (cut cs off m sz e))else none
  |_=>none
theorem aKG{g:Id→Option ax}{id:Id}{off m ext:Nat}:aG g 4 (.own id off m ext)=(g id).bind (KE g off m ext):=by
  simp only[aG]
  cases g id with
  |none=>rfl
  | some b=>cases b with
    |bx=>rfl
    |sl cl=>cases cl <;> rfl
def yx(P:Program)(i:aW)(e:Env)(h:Heap):Option AV:=
  (aV (kS P e h) i.results).bind λrs=>(dP (dY (dH h ((rs.map (jX h.get 4)).flatten)).get 4) rs []).bind λr=>some (one (rE P i.types r.1))
theorem aJ1{f:FuncId}{fn:Func}{c:Code}(hf:P.funcs[f]? =some fn)(hb:fn.body=some c)(hn:(fn.name== "runtime.NumGoroutine")=false)(hc:codeOk ⟨fn.ntmps,none,[]⟩ D c=true):
    au P f D=some ⟨c,fn.results.toList,fn.resultTypes.toList⟩:=by
  simp only[au,hf,hb]
  rw[if_pos ⟨hn,hc⟩]
def aj:bg:=λ_ _ _ _=>none
theorem aB:dU P aj:=λ_ _ _ _ _ _ h=>by cases h
abbrev ak:bn:=ZK
theorem aKQ{dd:Nat}{as:List AV}{k:FuncId}{first cap:List AV}:lG ak cp ci lvl dd h (some as) (.fn k first cap)=kG lvl dd h (kJ cp h.get k (first++as++cap)):=UU rfl
theorem asK{d:Option Tmp}{k args ts}:bW P ak cp ci lvl e h d (.call ⟨.value (.func k),⟨args⟩,ts⟩)=
    (aV (az e.get) args).bind λas=>kG lvl (d.getD 0) h (kJ cp h.get k as):=afU rfl
def bM(f:FuncId)(c:List AV->Option AV)(cp:af):af:=λg args=>if g=f then c args else cp g args
theorem bQ{f:FuncId}{c:List AV→Option AV}(hcp:aJ P cp)(hc: ∀ args r,c args=some r→aA P f args r):aJ P (bM f c cp):=fun g args r h=>by
  unfold bM at h
  split at h
  · rename_i hg;subst hg;exact hc args r h
  · exact hcp g args r h
def mY:af:=λ_ _=>none
theorem nJ:aJ P mY:=λ_ _ _ h=>by cases h
section
variable {f:FuncId}
end
end
end Go.Av
