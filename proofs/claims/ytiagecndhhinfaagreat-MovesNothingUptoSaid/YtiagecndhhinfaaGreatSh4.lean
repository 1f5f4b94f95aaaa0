/- The interpreter's equations, second part: places, rows, calls, results. Conditions: those that each names. -/
import Derived.Test.YtiagecndhhinfaaGreatSh3
set_option linter.unusedVariables false
namespace Go.Av
section
variable {P:Program} {C:bG} {cp:aC} {ci:bz} {lvl n:Nat} {prot:List Id} {D:List (Nat×List Nat)} {e:Env} {h:Heap} {all os:List Oper}
theorem aru{t el:TypeId}{sz by_ m:Nat}{xs:List AV}{i:Int}{g:Id→Option ak}(htv:aX P t=some (.slice el sz by_))(h0:0≤i)(h1:i<m):oJ P t g (.arr m xs) i=some (.ay xs (i.toNat*sz)):=by
  simp[oJ,htv,h0,h1]
def Ld(id:Id)(off m ext sz:Nat)(i:Int):ak→Option AV
  | .sl _ _ sz' ext' _=>if sz'=sz/\ext'=ext/\0<=i/\i<m then some (.ptr id (off+i.toNat*sz) ext)else none
  |_=>none
theorem arv{t el:TypeId}{sz by_ off m ext:Nat}{id:Id}{i:Int}{g:Id→Option ak}(htv:aX P t=some (.slice el sz by_)):
    oJ P t g (.own id off m ext) i=(g id).bind (Ld id off m ext sz i):=by
  simp only[oJ,htv,ai]
  cases g id with
  |none=>rfl
  |some b=>cases b <;> rfl
theorem ars{id:Id}{off m ext sz:Nat}{i:Int}{cl rw cells}(h0:0≤i)(h1:i<m):Ld id off m ext sz i (.sl cl rw sz ext cells)=some (.ptr id (off+i.toNat*sz) ext):=by
  simp[Ld,h0,h1]
theorem afc{t:TypeId}{g:Id->Option ak}{xs:List AV}{off:Nat}:pz P g t (.ay xs off)=part P xs t off:=rfl
def EF(P:Program)(t:TypeId)(off ext:Nat)(b:ak):Option AV:=if b.ext=ext then part P b.cells t off else none
theorem afb{t:TypeId}{g:Id->Option ak}{id:Id}{off ext:Nat}:pz P g t (.ptr id off ext)=(g id).bind (EF P t off ext):=rfl
theorem Vu{k x}:mF (.v (.int k x))=some x:=rfl
theorem ae2{m xs}:wF (.arr m xs)=some m:=rfl
theorem ae5{i o m x}:wF (.own i o m x)=some m:=rfl
theorem ae3{c}:wF (.v (.slice none 0 c))=some 0:=rfl
theorem Yb{x}:AV.cells (.v x)=[.v x]:=rfl
def nG(h:Heap)(id:Id)(off ext:Nat)(x:AV):ak→Option (AV×Heap)
  | .sl true true sz e cells=>if e=ext/\off<cells.length then some (.v undef,h.set id (.sl true true sz e (cells.set off x)))else none
  | .sl false true sz e cells=>if e=ext/\off<cells.length then some (.v undef,h.set id (.sl false true sz e (cells.set off x)))else none
  | .bx true cells=>if ext=0/\off<cells.length then some (.v undef,h.set id (.bx true (cells.set off x)))else none
  |_=>none
def jQ(P:Program)(t:TypeId)(h:Heap)(p y:AV):Option (AV×Heap):=if y.cells.length=bD P t/\0<bD P t then(lh h p y).bind λh'=>some (.v undef,h')else none
theorem af4{t:TypeId}{a x:Operand}{d:Option Tmp}:dw P C cp ci lvl e h d (.store t a x)=(aB e.get a).bind λp=>(aB e.get x).bind λy=>jQ P t h p y:=rfl
theorem azt{t:TypeId}{id:Id}{off ext:Nat}{k:IntKind}{z:Int}(hsz:bD P t=1):jQ P t h (.ptr id off ext) (.v (.int k z))=(h.get id).bind (nG h id off ext (.v (.int k z))):=by
  unfold jQ
  rw[if_pos ⟨by rw[hsz];rfl,by rw[hsz];exact Nat.one_pos⟩]
  cases hg:h.get id with
  |none=>simp[lh,hg]
  | some b=>
    rw[ai]
    have h1:([AV.v (.int k z)].mapM (aG h.get 4))=some [.v (.int k z)]:=by simp[aG]
    have h2:(([AV.v (.int k z)].map (aW h.get 4)).flatten)=[]:=by simp[aW]
    have e1: ∀ o c:Nat,(o+1<=c)=(o<c):=λ_ _=>rfl
    cases b with
    | bx rw cells=>
      have e0:((0:Nat)=ext)=(ext=0):=propext ⟨Eq.symm,Eq.symm⟩
      simp only[lh,hg,ai,Yb,ak.ext,ak.cells,List.length_cons,List.length_nil,List.all_cons,List.all_nil,AV.one,Bool.and_self,and_true,Nat.zero_add,e1,e0]
      cases rw with
      |false=>by_cases hh:ext=0/\off<cells.length <;> simp[hh,nG]
      |true=>by_cases hh:ext=0/\off<cells.length <;> simp[hh,nG,putCells]
    | sl cl rw sz e cells=>
      simp only[lh,hg,ai,Yb,ak.ext,ak.cells,List.length_cons,List.length_nil,List.all_cons,List.all_nil,AV.one,Bool.and_self,and_true,Nat.zero_add,e1,h1,h2,dV]
      cases cl <;> cases rw <;> by_cases hh:e=ext/\off<cells.length <;> simp[hh,nG,putCells]
def uq (P:Program)(t:TypeId)(x y:AV):Option AV:=(mF x).bind fun n=>(mF y).bind fun c=>
      (aX P t).bind λtv=>match tv with
      | .slice el sz by_=>(dU P el).bind fun z=>
        if 0<=n/\n<=c/\c<=2 ^ 47/\c*by_<=2 ^ 47/\z.length=sz then some (.fresh sz n.toNat (List.replicate n.toNat z).flatten)else none
      |_=>none
theorem afW{t:TypeId}{d:Option Tmp}{x y:Operand}:dw P C cp ci lvl e h d (.makeSlice t x y)=qo lvl (d.getD 0) h ((aB e.get x).bind λa=>(aB e.get y).bind λb=>uq P t a b):=afT
theorem aa8{t el:TypeId}{sz by_:Nat}{a c:Int}{k k':IntKind}{z:List AV}(htv:aX P t=some (.slice el sz by_))(hz:dU P el=some z)(hl:z.length=sz)
   (h0:0<=a) (h1:a<=c) (h2:c<=140737488355328) (h3:c*by_<=140737488355328):
   uq P t (.v (.int k a)) (.v (.int k' c))=some (.fresh sz a.toNat (List.replicate a.toNat z).flatten):=by
  simp only[uq,ai,Vu,htv,hz]
  rw[if_pos ⟨h0,h1,by omega,by omega,hl⟩]
theorem arx{a b c a' b' c':Nat}:(((a,b,c):Id)=(a',b',c'))=(a=a'/\b=b'/\c=c'):=by simp
theorem arw{a b c a' b' c':Nat}:(((a,b,c):Id)==(a',b',c'))=(decide (a=a')&&decide (b=b')&&decide (c=c')):=by
  by_cases h1:a=a' <;> by_cases h2:b=b' <;> by_cases h3:c=c' <;> simp[h1,h2,h3]
def JY(g:Id→Option ak)(off m ext:Nat):ak→Option AV
  | .sl true _ sz e cells=>if e=ext then some (.arr m (cut cells off m sz e))else none
  | .sl false _ sz e cells=>if e=ext then(cells.mapM (aG g 3)).bind λcs=>some (.arr m (cut cs off m sz e))else none
  |_=>none
theorem amM{g:Id→Option ak}{id:Id}{off m ext:Nat}:aG g 4 (.own id off m ext)=(g id).bind (JY g off m ext):=by
  simp only[aG]
  cases g id with
  |none=>rfl
  | some b=>cases b with
    |bx=>rfl
    |sl cl=>cases cl <;> rfl
def wW(P:Program)(i:aU)(e:Env)(h:Heap):Option AV:=
  (aZ (mf P e h) i.results).bind λrs=>(fE (fQ (dV h ((rs.map (kZ h.get 4)).flatten)).get 4) rs []).bind λr=>some (one (rU P i.types r.1))
theorem Ed{f:FuncId}{fn:Func}{c:Code}(hf:P.funcs[f]? =some fn)(hb:fn.body=some c)(hn:(fn.name== "runtime.NumGoroutine")=false)(hc:codeOk ⟨fn.ntmps,none,[]⟩ D c=true):
    aN P f D=some ⟨c,fn.results.toList,fn.resultTypes.toList⟩:=by
  simp only[aN,hf,hb]
  rw[if_pos ⟨hn,hc⟩]
def fH:bz:=λ_ _ _ _=>none
theorem eY:eH P fH:=λ_ _ _ _ _ _ h=>by cases h
abbrev oQ:bG:=TQ
theorem anF{dd:Nat}{as:List AV}{k:FuncId}{first cap:List AV}:yZ oQ cp ci lvl dd h (some as) (.fn k first cap)=uV lvl dd h (mr cp h.get k (first++as++cap)):=Z8 rfl
theorem afF{d:Option Tmp}{k args ts}:dw P oQ cp ci lvl e h d (.call ⟨.value (.func k),⟨args⟩,ts⟩)=
    (aZ (aB e.get) args).bind λas=>uV lvl (d.getD 0) h (mr cp h.get k as):=VA rfl
def bQ(f:FuncId)(c:List AV->Option AV)(cp:aC):aC:=λg args=>if g=f then c args else cp g args
theorem bU{f:FuncId}{c:List AV→Option AV}(hcp:aK P cp)(hc: ∀ args r,c args=some r→bH P f args r):aK P (bQ f c cp):=fun g args r h=>by
  unfold bQ at h
  split at h
  · rename_i hg;subst hg;exact hc args r h
  · exact hcp g args r h
def nX:aC:=λ_ _=>none
theorem oU:aK P nX:=λ_ _ _ h=>by cases h
section
variable {f:FuncId}
end
end
end Go.Av
