/- The documents' examples, reckoned by the interpreter itself. Made by a program of mine. Conditions: none. -/
import Derived.Test.YteafmomjfnlkgaaGreatLt
import Derived.Test.YteafmomjfnlkgaaGreatQ4S
import Derived.Test.YteafmomjfnlkgaaGreatProg
set_option linter.unusedVariables false
set_option linter.defProp false
set_option maxRecDepth 100000
open Go Go.Proofs
open Tryz (prog)
namespace Go.Av
abbrev TD:=List (Nat×List Nat)
def zz(l:List (List Nat)):TD:=l.map λx=>(0,x)
theorem Da{p q:Prop}(h:p)(k:p->q:=by intro h;simp only[O0,zz,List.map_cons,List.map_nil,Nat.zero_add,Nat.reduceAdd]at h;exact h):q:=k h
theorem fA{f:FuncId}{fn:Func}{D:TD}{c:Code}(hf:prog.funcs[f]? =some fn)(hb:fn.body=some c:=by exact rfl)(hn:(fn.name== "runtime.NumGoroutine")=false:=by kernel_rfl)(hc:codeOk ⟨fn.ntmps,none,[]⟩ D c=true:=by kernel_rfl):au prog f D=some ⟨c,fn.results.toList,fn.resultTypes.toList⟩:=aJ1 hf hb hn hc
namespace Aw
def ae(f:Func):Code:=f.body.getD .skip
theorem mixed:prog.follows .mixedOrders=true:=by kernel_rfl
def inl:bn:=bH [25,27,60,68,69,70,395]
def inls:bn:=⟨inl.inl,λ_=>[(0,[])]⟩
def c0:af:=mY
def q0:bg:=aj
theorem aIa:aJ prog c0:=nJ
theorem Ef:dU prog q0:=aB
noncomputable def cb(k:FuncId)(c:af)(D:TD)(n:aW):af:=bM k (λxs=>bI prog inl c q0 100 D n xs) c
theorem jS{k:FuncId}{c:af}{D:TD}{n:aW}(hc:aJ prog c)(i:au prog k D=some n):aJ prog (cb k c D n):=bQ hc λargs r h=>bJ mixed hc Ef i h
def uj:TD:=zz [[2],[],[0,3,4,5,6,7,8]]
noncomputable def n14:aW:=⟨ae Tryz.f14,[.tmp 2],[4]⟩
theorem i14:au prog 14 uj=some n14:=fA Tryz.func14
noncomputable def c1:af:=cb 14 c0 uj n14
theorem S9:aJ prog c1:=jS aIa i14
def qV:TD:=zz [[2],[],[3],[],[],[],[0,5,6,7]]
noncomputable def n48:aW:=⟨ae Tryz.f48,[.tmp 2],[22]⟩
theorem i48:au prog 48 qV=some n48:=fA Tryz.func48
def z48(k:List AV→Option AV):List AV→Option AV
  |[.arr 0 []]=>some (.fresh 1 0 [])
  |xs=>k xs
noncomputable def c2:af:=bM 48 (z48 λxs=>bI prog inl c1 q0 100 qV n48 xs) c1
theorem y48(a:Option Addr)(c:Nat):bI prog inl c1 q0 100 qV n48 [.v (.slice a 0 c)]=some (.fresh 1 0 []):=by cases a <;> kernel_rfl
theorem aFg:aJ prog c2:=bQ S9 fun args r h=>by
  unfold z48 at h
  split at h
  · injection h with h;subst h
    exact aA.ed λa c=>bJ mixed S9 Ef i48 (y48 a c)
  · exact bJ mixed S9 Ef i48 h
def tq:TD:=zz [[2],[],[0,3,4,5]]
noncomputable def n102:aW:=⟨ae Tryz.f102,[.tmp 2],[22]⟩
theorem V7:au prog 102 tq=some n102:=fA Tryz.func102
noncomputable def c3:af:=cb 102 c2 tq n102
theorem auo:aJ prog c3:=jS aFg V7
def tu:TD:=zz [[2],[],[0,3,4,5]]
noncomputable def n103:aW:=⟨ae Tryz.f103,[.tmp 2],[24]⟩
theorem Vj:au prog 103 tu=some n103:=fA Tryz.func103
noncomputable def c4:af:=cb 103 c3 tu n103
theorem aLQ:aJ prog c4:=jS auo Vj
def uQ:TD:=zz [[2],[],[0,3,4,5]]
noncomputable def n104:aW:=⟨ae Tryz.f104,[.tmp 2],[25]⟩
theorem VT:au prog 104 uQ=some n104:=fA Tryz.func104
noncomputable def c5:af:=cb 104 c4 uQ n104
theorem aJ4:aJ prog c5:=jS aLQ VT
def uG:TD:=zz [[2],[],[0,3,4,5]]
noncomputable def n105:aW:=⟨ae Tryz.f105,[.tmp 2],[26]⟩
theorem i105:au prog 105 uG=some n105:=fA Tryz.func105
noncomputable def c6:af:=cb 105 c5 uG n105
theorem azm:aJ prog c6:=jS aJ4 i105
def tY:TD:=[(0,[0]),(0,[]),(15,[1,3,4,5,6,7,8,9,10,11,12,13,14,15,16,17])]
noncomputable def n49:aW:=⟨ae Tryz.f49,[.cell 2 28],[28]⟩
theorem i49:au prog 49 tY=some n49:=fA Tryz.func49
noncomputable def c7:af:=cb 49 c6 tY n49
theorem abP:aJ prog c7:=jS azm i49
def uw:TD:=[(0,[2]),(0,[7,8,9]),(0,[8000003]),(0,[]),(0,[0]),(0,[]),(0,[]),(0,[]),(0,[11,12]),(0,[]),(0,[13]),(0,[]),(0,[14,15]),(0,[]),(8,[17,18,19,20,21,22,23,24]),(0,[]),(0,[5,6,25,26,27,28]),(0,[]),(0,[29]),(0,[]),(0,[3,30])]
noncomputable def n22:aW:=⟨ae Tryz.f22,[.tmp 2],[46]⟩
theorem i22:au prog 22 uw=some n22:=fA Tryz.func22
noncomputable def c8:af:=bM 22 (λxs=>(bI prog inl c7 q0 100 uw n22 xs).bind (eF 4)) c7
theorem aI7:aJ prog c8:=bQ abP fun args r h=>by
  obtain⟨r0,h0,h1⟩:=Option.bind_eq_some_iff.1 h
  exact(bJ mixed abP Ef i22 h0).al6 h1
def DF:TD:=zz [[3],[],[0,1,4,5,6,7,8,9,10]]
noncomputable def n67:aW:=⟨ae Tryz.f67,[.tmp 3],[4]⟩
theorem i67:au prog 67 DF=some n67:=fA Tryz.func67
noncomputable def c9:af:=cb 67 c8 DF n67
theorem aww:aJ prog c9:=jS aI7 i67
def vU:TD:=zz [[2],[],[0,3,4]]
noncomputable def n112:aW:=⟨ae Tryz.f112,[.tmp 2],[4]⟩
theorem Tv:au prog 112 vU=some n112:=fA Tryz.func112
noncomputable def c10:af:=cb 112 c9 vU n112
theorem aGm:aJ prog c10:=jS aww Tv
def uF:TD:=zz [[2],[],[0,3,4]]
noncomputable def n113:aW:=⟨ae Tryz.f113,[.tmp 2],[4]⟩
theorem YH:au prog 113 uF=some n113:=fA Tryz.func113
noncomputable def c11:af:=cb 113 c10 uF n113
theorem aCY:aJ prog c11:=jS aGm YH
def uq:TD:=zz [[4],[0,1,7,8],[6],[5],[],[],[10],[],[11,12,13,14,15],[],[17],[],[18],[],[]]
noncomputable def n151:aW:=⟨ae Tryz.f151,[.tmp 4],[3]⟩
theorem Xc:au prog 151 uq=some n151:=fA Tryz.func151
noncomputable def c12:af:=cb 151 c11 uq n151
theorem aF7:aJ prog c12:=jS aCY Xc
def wu:TD:=zz [[4],[],[0,1,5,6,7,8]]
noncomputable def n66:aW:=⟨ae Tryz.f66,[.tmp 4],[4]⟩
theorem i66:au prog 66 wu=some n66:=fA Tryz.func66
noncomputable def c13:af:=cb 66 c12 wu n66
theorem aKc:aJ prog c13:=jS aF7 i66
def vO:TD:=zz [[4],[0,1,7,8],[6],[5],[],[],[10],[],[11,12,13,14,15],[],[17],[],[18],[],[]]
noncomputable def n191:aW:=⟨ae Tryz.f191,[.tmp 4],[3]⟩
theorem UI:au prog 191 vO=some n191:=fA Tryz.func191
noncomputable def c14:af:=cb 191 c13 vO n191
theorem awF:aJ prog c14:=jS aKc UI
def vF:TD:=zz [[4],[],[0,1,5,6,7,8]]
noncomputable def n114:aW:=⟨ae Tryz.f114,[.tmp 4],[4]⟩
theorem aaB:au prog 114 vF=some n114:=fA Tryz.func114
noncomputable def c15:af:=cb 114 c14 vF n114
theorem aur:aJ prog c15:=jS awF aaB
def uh:TD:=zz [[2,3],[18,19,20],[7],[],[],[],[9,10,11,12,13,14],[],[],[],[16],[],[],[],[],[],[0],[],[],[],[22,23],[],[24,25,26],[],[],[],[6,28,29,30],[],[31],[],[4,32]]
noncomputable def n54:aW:=⟨ae Tryz.f54,[.tmp 2,.tmp 3],[3,34]⟩
theorem i54:au prog 54 uh=some n54:=fA Tryz.func54
noncomputable def c16:af:=cb 54 c15 uh n54
theorem aH7:aJ prog c16:=jS aur i54
def uO:TD:=zz [[2],[3],[0],[],[5],[],[],[],[7],[],[],[],[9],[],[],[],[]]
noncomputable def n172:aW:=⟨ae Tryz.f172,[.tmp 2],[3]⟩
theorem XM:au prog 172 uO=some n172:=fA Tryz.func172
noncomputable def c17:af:=cb 172 c16 uO n172
theorem awM:aJ prog c17:=jS aH7 XM
def tN:TD:=zz [[2],[],[0,3,4,5]]
noncomputable def n106:aW:=⟨ae Tryz.f106,[.tmp 2],[4]⟩
theorem aa6:au prog 106 tN=some n106:=fA Tryz.func106
noncomputable def c18:af:=cb 106 c17 tN n106
theorem aEH:aJ prog c18:=jS awM aa6
def tJ:TD:=zz [[0,2],[23],[6,7,8],[],[],[],[10,11,12,13,14,15],[],[16],[],[18],[],[4,19,20,21],[],[22],[],[25],[],[26,27,28],[],[30],[],[31,32,33],[],[1,3,5,34,35,36,37,38,39,40,41,42,43,44,45,46,47,48,49,50],[],[],[],[]]
noncomputable def n50:aW:=⟨ae Tryz.f50,[.tmp 2],[34]⟩
theorem i50:au prog 50 tJ=some n50:=fA Tryz.func50
noncomputable def c19:af:=cb 50 c18 tJ n50
theorem aG7:aJ prog c19:=jS aEH i50
def uy:TD:=zz [[2],[],[0,3,4]]
noncomputable def n140:aW:=⟨ae Tryz.f140,[.tmp 2],[23]⟩
theorem aal:au prog 140 uy=some n140:=fA Tryz.func140
noncomputable def c20:af:=cb 140 c19 uy n140
theorem aEZ:aJ prog c20:=jS aG7 aal
def uN:TD:=zz [[2],[],[0,3,4,5]]
noncomputable def n124:aW:=⟨ae Tryz.f124,[.tmp 2],[4]⟩
theorem i124:au prog 124 uN=some n124:=fA Tryz.func124
noncomputable def c21:af:=cb 124 c20 uN n124
theorem auC:aJ prog c21:=jS aEZ i124
def vz:TD:=zz [[2],[],[3],[],[],[],[0,5]]
noncomputable def n107:aW:=⟨ae Tryz.f107,[.tmp 2],[23]⟩
theorem i107:au prog 107 vz=some n107:=fA Tryz.func107
noncomputable def c22:af:=cb 107 c21 vz n107
theorem aq5:aJ prog c22:=jS auC i107
def ul:TD:=[(0,[0]),(0,[9,10,11]),(0,[1,6,7]),(0,[]),(0,[8]),(0,[]),(0,[]),(0,[]),(0,[13,14,15]),(0,[]),(6,[4,5,16,17,18,19,20,21]),(0,[]),(0,[22]),(0,[]),(0,[3,23])]
noncomputable def n51:aW:=⟨ae Tryz.f51,[.cell 2 28],[28]⟩
theorem i51:au prog 51 ul=some n51:=fA Tryz.func51
noncomputable def c23:af:=cb 51 c22 ul n51
theorem ZO:aJ prog c23:=jS aq5 i51
def amT:TD:=zz [[4],[],[5],[],[7],[],[8,9,10,11,12,13,14],[],[15],[],[17,18,19,20,21,22,23,24,25],[],[0,1,26,6000004]]
noncomputable def adK:aW:=⟨ae Tryz.f395,[.tmp 4],[225]⟩
theorem aAJ:au prog 395 amT=some adK:=fA Tryz.func395
noncomputable def q1:bg:=dO prog inl c23 q0 100 395 amT adK q0
theorem gJ:dU prog q1:=iF mixed ZO Ef aAJ Ef
def ab2:TD:=zz [[2],[9,10,11],[],[],[],[25,26,27],[],[],[13,14],[],[5,15,16,17,18],[],[19],[],[21],[],[22],[],[3,23,24,3000000006],[],[0],[],[],[],[29,30],[],[8,31,32,33],[],[34],[],[6,35]]
noncomputable def akL:aW:=⟨ae Tryz.f383,[.tmp 2],[225]⟩
theorem aAw:au prog 383 ab2=some akL:=fA Tryz.func383
noncomputable def c24:af:=bM 383 (λxs=>bI prog inl c23 q1 100 ab2 akL xs) c23
theorem aje:aJ prog c24:=bQ ZO λargs r h=>bJ mixed ZO gJ aAw h
def aip:TD:=zz [[0],[],[1,2,3,4,5,6,7,8,9,10,11,12,13,14,15,16,17,18,19,20,21,22,23,24,25,26,27,28,29,30,31,32,33,34,35,36,37,38,39,40,41,42,43,44,45]]
noncomputable def agT:aW:=⟨ae Tryz.f384,[.tmp 0],[225]⟩
theorem aCl:au prog 384 aip=some agT:=fA Tryz.func384
noncomputable def c25:af:=bM 384 (λxs=>bI prog inl c24 q1 100 aip agT xs) c24
theorem akv:aJ prog c25:=bQ aje λargs r h=>bJ mixed aje gJ aCl h
def alP:TD:=zz [[0],[],[1,2,3,4,5,6,7,8,9,10,11,12,13,14,15,16,17,18,19,20,21]]
noncomputable def alA:aW:=⟨ae Tryz.f385,[.tmp 0],[225]⟩
theorem aBy:au prog 385 alP=some alA:=fA Tryz.func385
noncomputable def Zv:af:=bM 385 (λxs=>bI prog inl c25 q1 100 alP alA xs) c25
theorem aln:aJ prog Zv:=bQ akv λargs r h=>bJ mixed akv gJ aBy h
def af8:TD:=zz [[0],[],[1,2,3,4,5,6,7,8,9,10,11,12,13,14,15,16,17]]
noncomputable def acB:aW:=⟨ae Tryz.f386,[.tmp 0],[225]⟩
theorem aJW:au prog 386 af8=some acB:=fA Tryz.func386
noncomputable def YG:af:=bM 386 (λxs=>bI prog inl Zv q1 100 af8 acB xs) Zv
theorem ahk:aJ prog YG:=bQ aln λargs r h=>bJ mixed aln gJ aJW h
def amI:TD:=zz [[0],[],[1,2,3,4,5]]
noncomputable def ag5:aW:=⟨ae Tryz.f350,[.tmp 0],[225]⟩
theorem aAg:au prog 350 amI=some ag5:=fA Tryz.func350
noncomputable def c28:af:=bM 350 (λxs=>bI prog inl YG q1 100 amI ag5 xs) YG
theorem acf:aJ prog c28:=bQ ahk λargs r h=>bJ mixed ahk gJ aAg h
def aiw:TD:=zz [[],[],[3,4,5,6,7],[],[9],[],[0,10,11,12,13,14]]
noncomputable def n267:aW:=⟨ae Tryz.f267,[.cell 2 191],[191]⟩
theorem aqB:au prog 267 aiw=some n267:=fA Tryz.func267
noncomputable def c29:af:=bM 267 (λxs=>bI prog inl c28 q1 100 aiw n267 xs) c28
theorem ajw:aJ prog c29:=bQ acf λargs r h=>bJ mixed acf gJ aqB h
def ag7:TD:=[(0,[2,3,4,5]),(0,[]),(0,[0,7,8]),(0,[]),(12,[6,9,10,11,12,13,14,15,16])]
noncomputable def n173:aW:=⟨ae Tryz.f173,[.tmp 2,.tmp 3,.tmp 4,.tmp 5],[3,3,3,3]⟩
theorem i173:au prog 173 ag7=some n173:=fA Tryz.func173
noncomputable def GL:List AV->Option AV:=λxs=>bI prog inl c29 q1 100 ag7 n173 xs
def aa7(q:Nat×Nat):AV:= .tuple [.v (.int .i64 q.1),.v (.int .i64 q.2),.v (.int .i64 1),.v (.int .i64 1)]
def a173(n:Nat):List AV:=[.v (.int .i64 (.ofNat (n+1)))]
theorem aqK:(List.range 44).map (λn=>GL (a173 n))=tA.map λq=>some (aa7 q):=by kernel_rfl
theorem aa4(args:List AV)(r:AV)(h:GL args=some r):aA prog 173 args r:=by
  unfold GL at h
  exact bJ mixed ajw gJ i173 h
theorem aem{n:Nat}{q}(h:tA[n]? =some q):aA prog 173 (a173 n) (aa7 q):=aa4 _ _ (by
  have e:=congrArg (λl=>l[n]?) aqK
  have hn:n<44:=(List.getElem?_eq_some_iff.1 h).1
  simpa[List.getElem?_map,List.getElem?_range hn,h]using e)
noncomputable def z173(xs:List AV):Option AV:=match xs with
  | [.v (.int .i64 (.ofNat (n+1)))]=>match tA[n]? with
    |some q=>some (aa7 q)
    |none=>GL xs
  |_=>GL xs
noncomputable def c30:af:=bM 173 z173 c29
theorem akm:aJ prog c30:=bQ ajw fun args r h=>by
  unfold z173 at h
  split at h
  · split at h
    · next hq=>injection h with h;subst h;exact aem hq
    · exact aa4 _ _ h
  · exact aa4 _ _ h
def ug:TD:=zz [[0],[],[5,6,7,8],[],[10,11,12,13,14],[],[1,2,15]]
noncomputable def n190:aW:=⟨ae Tryz.f190,[.cell 4 51],[51]⟩
theorem UT:au prog 190 ug=some n190:=fA Tryz.func190
noncomputable def c31:af:=bM 190 (λxs=>bI prog inl c30 q1 100 ug n190 xs) c30
theorem ah9:aJ prog c31:=bQ akm λargs r h=>bJ mixed akm gJ UT h
def vw:TD:=zz [[0,4],[],[1,2,5,6,7,8,9]]
noncomputable def n174:aW:=⟨ae Tryz.f174,[.tmp 4],[4]⟩
theorem Xy:au prog 174 vw=some n174:=fA Tryz.func174
noncomputable def c32:af:=bM 174 (λxs=>bI prog inl c31 q1 100 vw n174 xs) c31
theorem ag8:aJ prog c32:=bQ ah9 λargs r h=>bJ mixed ah9 gJ Xy h
def uV:TD:=zz [[0,2],[1,49,50],[8,9,10,11,12,13,14,15],[],[4,5,6,16,17,18,19,20,21,22,23,24,25,26,27,28,29,30,31,32,33,34,35,36,37,38,39,40,41,42,43,44,45,46,47],[],[],[],[3],[],[],[],[52],[],[7,53,54,55],[],[],[],[57],[],[]]
noncomputable def n108:aW:=⟨ae Tryz.f108,[.tmp 2],[4]⟩
theorem aae:au prog 108 uV=some n108:=fA Tryz.func108
noncomputable def Zf:af:=bM 108 (λxs=>bI prog inl c32 q1 100 uV n108 xs) c32
theorem acn:aJ prog Zf:=bQ ag8 λargs r h=>bJ mixed ag8 gJ aae h
def tZ:TD:=[(0,[2]),(0,[3,4,13,18,31,36,45,55]),(0,[0]),(0,[]),(0,[5]),(0,[]),(0,[6]),(0,[]),(0,[7]),(1,[]),(0,[8]),(0,[]),(0,[9]),(0,[]),(0,[10]),(0,[]),(0,[11]),(0,[]),(0,[12]),(0,[]),(0,[]),(0,[]),(0,[14]),(0,[]),(0,[15]),(0,[]),(0,[16]),(1,[]),(0,[17]),(0,[]),(0,[]),(0,[]),(0,[19]),(0,[]),(0,[20]),(0,[]),(0,[21]),(1,[]),(0,[22]),(0,[]),(0,[23]),(0,[]),(0,[24]),(0,[]),(0,[25]),(0,[]),(0,[26]),(0,[]),(0,[27]),(0,[]),(0,[28]),(0,[]),(0,[29]),(0,[]),(0,[30]),(0,[]),(0,[]),(0,[]),(0,[32]),(0,[]),(0,[33]),(0,[]),(0,[]),(1,[]),(0,[35]),(0,[]),(0,[]),(0,[]),(0,[37]),(0,[]),(0,[38]),(0,[]),(0,[39]),(1,[]),(0,[40]),(0,[]),(0,[41]),(0,[]),(0,[42]),(0,[]),(0,[43]),(0,[]),(0,[44]),(0,[]),(0,[]),(0,[]),(0,[46]),(0,[]),(0,[47]),(0,[]),(0,[48]),(1,[]),(0,[49]),(0,[]),(0,[50]),(0,[]),(0,[51]),(0,[]),(0,[52]),(0,[]),(0,[53]),(0,[]),(0,[54]),(0,[]),(0,[]),(0,[]),(0,[56]),(0,[]),(0,[57]),(0,[]),(0,[]),(1,[]),(0,[59]),(0,[]),(0,[]),(0,[]),(0,[61]),(0,[]),(0,[]),(0,[]),(0,[])]
noncomputable def n268:aW:=⟨ae Tryz.f268,[.tmp 2],[9]⟩
theorem XJ:au prog 268 tZ=some n268:=fA Tryz.func268
noncomputable def c34:af:=bM 268 (λxs=>bI prog inl Zf q1 100 tZ n268 xs) Zf
theorem adv:aJ prog c34:=bQ acn λargs r h=>bJ mixed acn gJ XJ h
def vV:TD:=zz [[0,6],[1,3,12],[8,9,10,11],[],[2],[],[14],[],[15,16,17,18,19,20],[],[22],[],[23,24],[],[26],[],[27,28],[],[30],[],[31,32],[],[34],[],[35,36,37,38,39],[],[41],[],[42,43,44,45,46,47,48],[],[7,49,50,51]]
noncomputable def n269:aW:=⟨ae Tryz.f269,[.tmp 6],[4]⟩
theorem RF:au prog 269 vV=some n269:=fA Tryz.func269
noncomputable def XD:af:=bM 269 (λxs=>bI prog inl c34 q1 100 vV n269 xs) c34
theorem adR:aJ prog XD:=bQ adv λargs r h=>bJ mixed adv gJ RF h
def uY:TD:=[(0,[0,2]),(0,[3,10,11]),(0,[5,6,7]),(0,[]),(0,[8,9]),(0,[]),(0,[]),(0,[]),(0,[13]),(0,[]),(24,[4,14,15,16,17,18,19,20,21,22,23,24,25,26,27,28,29,30,31,32,33,34,35,36]),(0,[]),(0,[]),(0,[]),(0,[38]),(0,[]),(0,[1,39,40,41,42,43,44,45,46,47,48,49,50,51,52,53])]
noncomputable def n175:aW:=⟨ae Tryz.f175,[.tmp 2],[4]⟩
theorem i175:au prog 175 uY=some n175:=fA Tryz.func175
noncomputable def c36:af:=bM 175 (λxs=>bI prog inl XD q1 100 uY n175 xs) XD
theorem alr:aJ prog c36:=bQ adR λargs r h=>bJ mixed adR gJ i175 h
def uK:TD:=zz [[0,4],[],[1,2,5,6,7,8]]
noncomputable def n178:aW:=⟨ae Tryz.f178,[.tmp 4],[22]⟩
theorem YW:au prog 178 uK=some n178:=fA Tryz.func178
noncomputable def c37:af:=bM 178 (λxs=>bI prog inl c36 q1 100 uK n178 xs) c36
theorem aij:aJ prog c37:=bQ alr λargs r h=>bJ mixed alr gJ YW h
def wo:TD:=zz [[0,2],[],[1,3,4,5]]
noncomputable def n270:aW:=⟨ae Tryz.f270,[.tmp 2],[3]⟩
theorem Zj:au prog 270 wo=some n270:=fA Tryz.func270
noncomputable def Vo:af:=bM 270 (λxs=>bI prog inl c37 q1 100 wo n270 xs) c37
theorem alU:aJ prog Vo:=bQ aij λargs r h=>bJ mixed aij gJ Zj h
def vK:TD:=[(0,[0,2]),(0,[1,3,4,17,58,99,131,164]),(5,[12,13,14,15]),(0,[]),(0,[16]),(0,[]),(0,[19]),(0,[]),(0,[20,21,22,23,24,25,26,27]),(0,[]),(0,[29]),(0,[]),(0,[30,31,32,33]),(0,[]),(0,[35]),(0,[]),(0,[36,37,38,39,40,41,42,43,44,45,46,47,48,49]),(0,[]),(0,[5,50,51,52,53,54,55,56,57]),(0,[]),(0,[59]),(0,[]),(0,[60]),(0,[]),(0,[61,62,63,64,65,66,67,68]),(0,[]),(0,[70]),(0,[]),(0,[71,72,73,74,75,76,77]),(0,[]),(0,[6,7,78,79,80,81,82,83,84,85,86,87,88,89,90,91,92,93,94,95,96,97,98]),(0,[]),(0,[100]),(0,[]),(0,[101]),(0,[]),(0,[102]),(0,[]),(0,[103]),(0,[]),(0,[104]),(0,[]),(0,[105]),(0,[]),(0,[106]),(0,[]),(0,[107]),(0,[]),(0,[108]),(0,[]),(0,[8,109,110,111,112,113,114,115]),(0,[]),(0,[9,116,117]),(0,[]),(0,[119]),(0,[]),(0,[120,121,122,123,124,125,126,127,128,129,130]),(0,[]),(0,[132]),(0,[]),(0,[133]),(0,[]),(0,[134]),(0,[]),(0,[135]),(0,[]),(0,[10,136,137,138,139,140,141,142]),(0,[]),(0,[11,143,144]),(0,[]),(0,[146]),(0,[]),(0,[147,148,149,150,151,152,153,154,155,156,157,158,159,160,161,162,163]),(0,[]),(0,[165]),(0,[]),(0,[166]),(0,[]),(0,[167,168,169,170,171,172,173,174]),(0,[]),(0,[]),(0,[]),(0,[]),(0,[]),(0,[]),(0,[]),(0,[]),(0,[]),(0,[]),(0,[]),(0,[]),(0,[]),(0,[]),(0,[]),(0,[]),(0,[]),(0,[]),(0,[]),(0,[]),(0,[]),(0,[]),(0,[]),(0,[]),(0,[]),(0,[]),(0,[]),(0,[]),(0,[]),(0,[]),(0,[]),(0,[]),(0,[]),(0,[]),(0,[]),(0,[]),(0,[]),(0,[]),(1,[]),(0,[]),(0,[]),(0,[]),(0,[]),(0,[]),(0,[]),(0,[]),(0,[]),(0,[]),(0,[]),(0,[]),(0,[]),(0,[]),(0,[]),(0,[]),(0,[]),(0,[]),(0,[]),(0,[]),(0,[]),(0,[]),(0,[]),(0,[]),(0,[]),(0,[]),(0,[]),(0,[]),(0,[]),(0,[]),(0,[]),(0,[]),(0,[]),(0,[]),(0,[]),(0,[]),(0,[]),(0,[]),(0,[]),(0,[]),(0,[]),(0,[]),(0,[]),(0,[]),(0,[]),(0,[]),(0,[]),(0,[]),(0,[]),(0,[]),(0,[]),(0,[]),(0,[]),(0,[]),(0,[]),(0,[]),(0,[]),(0,[]),(0,[]),(0,[]),(0,[]),(0,[]),(0,[]),(0,[]),(0,[]),(0,[]),(0,[]),(0,[]),(0,[]),(0,[]),(0,[]),(0,[]),(0,[]),(0,[]),(0,[]),(0,[]),(0,[]),(0,[]),(0,[]),(0,[]),(0,[]),(0,[]),(1,[]),(0,[]),(0,[]),(0,[]),(0,[]),(0,[]),(0,[]),(0,[]),(0,[]),(0,[]),(0,[]),(0,[]),(0,[]),(0,[]),(0,[]),(0,[]),(0,[]),(0,[]),(0,[]),(0,[]),(0,[]),(0,[]),(0,[]),(0,[]),(0,[]),(0,[]),(0,[]),(0,[]),(0,[]),(0,[]),(0,[]),(0,[]),(0,[]),(0,[]),(0,[]),(0,[]),(0,[]),(0,[]),(0,[]),(0,[]),(0,[]),(0,[]),(0,[]),(0,[]),(0,[]),(0,[]),(0,[]),(0,[]),(0,[]),(0,[]),(0,[]),(0,[]),(0,[]),(0,[]),(0,[]),(0,[]),(0,[]),(0,[]),(0,[]),(0,[]),(0,[]),(0,[]),(0,[]),(0,[]),(1,[]),(0,[]),(0,[]),(0,[]),(0,[]),(0,[]),(0,[]),(0,[]),(0,[]),(0,[]),(0,[]),(0,[]),(0,[]),(0,[]),(0,[]),(0,[]),(0,[]),(0,[]),(0,[]),(0,[]),(0,[]),(0,[]),(0,[]),(0,[]),(0,[]),(0,[]),(0,[]),(0,[]),(0,[]),(0,[]),(0,[]),(0,[]),(0,[]),(0,[]),(0,[]),(0,[]),(0,[]),(0,[]),(0,[]),(0,[]),(0,[]),(0,[]),(0,[]),(0,[]),(0,[]),(0,[]),(0,[]),(0,[]),(0,[]),(0,[]),(0,[]),(0,[]),(0,[]),(0,[]),(0,[]),(0,[]),(0,[]),(0,[]),(0,[]),(0,[]),(0,[]),(0,[]),(0,[]),(0,[]),(0,[]),(0,[]),(1,[])]
noncomputable def n176:aW:=⟨ae Tryz.f176,[.tmp 2],[4]⟩
theorem Zq:au prog 176 vK=some n176:=fA Tryz.func176
noncomputable def Yu:af:=bM 176 (λxs=>bI prog inl Vo q1 100 vK n176 xs) Vo
theorem ais:aJ prog Yu:=bQ alU λargs r h=>bJ mixed alU gJ Zq h
def uA:TD:=[(0,[0,2]),(0,[8,13]),(0,[]),(0,[1,4,6]),(0,[7]),(0,[]),(0,[]),(0,[]),(0,[10]),(0,[]),(0,[]),(0,[]),(0,[12]),(0,[]),(0,[]),(0,[]),(0,[14]),(0,[]),(0,[15]),(0,[]),(0,[16]),(0,[]),(0,[17]),(0,[]),(0,[18]),(0,[]),(0,[19]),(1,[]),(0,[20]),(0,[]),(0,[21]),(0,[]),(0,[]),(0,[]),(0,[3,22]),(0,[]),(0,[23,24]),(0,[]),(0,[26,27]),(0,[]),(0,[28,29]),(0,[]),(0,[31,32,33,34,35,36]),(0,[]),(0,[5,37])]
noncomputable def n276:aW:=⟨ae Tryz.f276,[.tmp 2],[46]⟩
theorem abk:au prog 276 uA=some n276:=fA Tryz.func276
noncomputable def c40:af:=bM 276 (λxs=>bI prog inl Yu q1 100 uA n276 xs) Yu
theorem ae3:aJ prog c40:=bQ ais λargs r h=>bJ mixed ais gJ abk h
def uC:TD:=[(0,[4]),(0,[0,1,12,13]),(0,[6,7,8,9]),(0,[]),(0,[]),(0,[]),(0,[11]),(0,[]),(0,[]),(0,[]),(0,[15]),(0,[]),(9,[5,16,17,18,19,20,21,22,23]),(0,[]),(0,[]),(0,[]),(0,[25]),(0,[]),(0,[])]
noncomputable def n193:aW:=⟨ae Tryz.f193,[.tmp 4],[4]⟩
theorem i193:au prog 193 uC=some n193:=fA Tryz.func193
noncomputable def XC:af:=bM 193 (λxs=>bI prog inl c40 q1 100 uC n193 xs) c40
theorem aeD:aJ prog XC:=bQ ae3 λargs r h=>bJ mixed ae3 gJ i193 h
def tH:TD:=zz [[4],[0,1,7,8],[6],[5],[],[],[10],[],[11,12,13,14,15],[],[17],[],[18],[],[]]
noncomputable def afj:aW:=⟨ae Tryz.f351,[.tmp 4],[3]⟩
theorem Um:au prog 351 tH=some afj:=fA Tryz.func351
noncomputable def VM:af:=bM 351 (λxs=>bI prog inl XC q1 100 tH afj xs) XC
theorem amM:aJ prog VM:=bQ aeD λargs r h=>bJ mixed aeD gJ Um h
def ww:TD:=zz [[4],[],[0,1,5,6,7,8]]
noncomputable def n277:aW:=⟨ae Tryz.f277,[.tmp 4],[4]⟩
theorem aaz:au prog 277 ww=some n277:=fA Tryz.func277
noncomputable def c43:af:=bM 277 (λxs=>bI prog inl VM q1 100 ww n277 xs) VM
theorem aeA:aJ prog c43:=bQ amM λargs r h=>bJ mixed amM gJ aaz h
def vN:TD:=zz [[0,2],[1,3],[4,5],[],[7,8],[],[],[],[10,11],[],[],[],[13,14,15,16,17,18,19],[],[],[],[]]
noncomputable def n177:aW:=⟨ae Tryz.f177,[.tmp 2],[34]⟩
theorem Yh:au prog 177 vN=some n177:=fA Tryz.func177
noncomputable def TC:af:=bM 177 (λxs=>bI prog inl c43 q1 100 vN n177 xs) c43
theorem af6:aJ prog TC:=bQ aeA λargs r h=>bJ mixed aeA gJ Yh h
def uo:TD:=zz [[0,2],[8,9,10],[7],[],[],[],[12,13,14],[],[4,5,15,16,17,18,19,20],[],[3,6,21,22,23,24,25,26],[],[],[],[28],[],[30,31,32],[],[],[],[34,35,36],[],[],[],[1,37,38]]
noncomputable def n109:aW:=⟨ae Tryz.f109,[.tmp 2],[34]⟩
theorem i109:au prog 109 uo=some n109:=fA Tryz.func109
noncomputable def X6:af:=bM 109 (λxs=>bI prog inl TC q1 100 uo n109 xs) TC
theorem al1:aJ prog X6:=bQ af6 λargs r h=>bJ mixed af6 gJ i109 h
def uT:TD:=zz [[2,3],[],[0,4,5]]
noncomputable def n189:aW:=⟨ae Tryz.f189,[.tmp 2,.tmp 3],[77,34]⟩
theorem U8:au prog 189 uT=some n189:=fA Tryz.func189
noncomputable def c46:af:=bM 189 (λxs=>bI prog inl X6 q1 100 uT n189 xs) X6
theorem ae4:aJ prog c46:=bQ al1 λargs r h=>bJ mixed al1 gJ U8 h
def uP:TD:=zz [[4,5],[19,20,21],[17,18],[9],[],[11,48,49,50],[23,24],[],[7,8,25,26,27,28,29],[12,13,14],[30],[],[32],[],[33],[],[34,35,36,37],[],[39,40],[],[41,42],[],[0,43,44,45,46,47],[],[1],[],[],[],[52,53,54],[],[55,56,57,58,59,60],[],[62,63],[],[64,65,66,67,68,69],[],[71,72,73,74,75,76,77],[],[],[],[78],[],[15,79,80,81,82,83],[],[84],[],[86],[],[10,16,87]]
noncomputable def n192:aW:=⟨ae Tryz.f192,[.tmp 4,.tmp 5],[22,34]⟩
theorem aaM:au prog 192 uP=some n192:=fA Tryz.func192
noncomputable def Xm:af:=bM 192 (λxs=>bI prog inl c46 q1 100 uP n192 xs) c46
theorem adG:aJ prog Xm:=bQ ae4 λargs r h=>bJ mixed ae4 gJ aaM h
def uf:TD:=zz [[0,2,3],[1,5],[8,9],[],[],[],[10,11,12,13],[],[15,16],[],[17,18,19,20,21,22,23,24],[],[25],[],[27],[],[6,7,28,1000000004],[],[4,29,30,31,32]]
noncomputable def n179:aW:=⟨ae Tryz.f179,[.tmp 2,.tmp 3],[77,34]⟩
theorem Sr:au prog 179 uf=some n179:=fA Tryz.func179
noncomputable def TS:af:=bM 179 (λxs=>bI prog inl Xm q1 100 uf n179 xs) Xm
theorem ai1:aJ prog TS:=bQ adG λargs r h=>bJ mixed adG gJ Sr h
def tK:TD:=[(0,[0,2,3]),(0,[1,5,9,10,54,78,108,115]),(0,[6,7]),(0,[]),(0,[8]),(0,[]),(0,[11]),(0,[]),(0,[12]),(0,[]),(0,[13]),(0,[]),(0,[14]),(0,[]),(0,[15]),(0,[]),(0,[16]),(0,[]),(0,[17]),(0,[]),(0,[18]),(1,[]),(0,[19]),(0,[]),(0,[20]),(0,[]),(0,[21]),(0,[]),(0,[22]),(0,[]),(0,[23]),(0,[]),(0,[24]),(0,[]),(0,[25]),(0,[]),(0,[26]),(0,[]),(0,[27]),(0,[]),(0,[28,29,30,31]),(0,[]),(0,[33]),(0,[]),(0,[34,35,36,37]),(0,[]),(0,[38]),(0,[]),(0,[40]),(0,[]),(0,[42]),(0,[]),(8,[43,44,45,46,47,48,49]),(0,[]),(0,[51,52,53]),(0,[]),(0,[55]),(0,[]),(0,[56]),(0,[]),(0,[57]),(0,[]),(0,[58]),(0,[]),(0,[59]),(0,[]),(0,[60]),(0,[]),(0,[61]),(0,[]),(0,[62]),(0,[]),(0,[63]),(0,[]),(0,[64]),(0,[]),(0,[65]),(0,[]),(0,[66]),(0,[]),(0,[67]),(0,[]),(0,[68]),(0,[]),(0,[69]),(0,[]),(0,[70]),(0,[]),(0,[71]),(0,[]),(0,[72]),(0,[]),(0,[73]),(0,[]),(0,[74,75,76,77]),(0,[]),(0,[79]),(0,[]),(0,[80]),(0,[]),(0,[81]),(0,[]),(0,[82]),(0,[]),(0,[83]),(0,[]),(0,[84]),(0,[]),(0,[85]),(1,[]),(0,[86,87,88,89]),(0,[]),(0,[91]),(0,[]),(0,[92,93,94,95]),(0,[]),(0,[97]),(0,[]),(0,[98,99,100,101]),(0,[]),(0,[103]),(0,[]),(0,[104,105,106,107]),(0,[]),(0,[109]),(0,[]),(0,[110]),(0,[]),(0,[111,112,113,114]),(0,[]),(0,[116]),(0,[]),(0,[117]),(0,[]),(0,[118]),(0,[]),(0,[119,120,121,122]),(0,[]),(0,[4,123,124,125,126]),(0,[]),(0,[]),(0,[]),(0,[]),(0,[]),(0,[]),(0,[]),(0,[]),(0,[]),(0,[]),(0,[]),(0,[]),(0,[]),(0,[]),(0,[]),(0,[]),(0,[]),(0,[]),(1,[]),(0,[]),(0,[]),(0,[]),(0,[]),(0,[]),(0,[]),(0,[]),(0,[]),(0,[]),(0,[]),(0,[]),(0,[]),(0,[]),(0,[]),(0,[]),(0,[]),(0,[]),(0,[]),(0,[]),(0,[]),(0,[]),(0,[]),(0,[]),(0,[]),(0,[]),(0,[]),(0,[]),(0,[]),(0,[]),(0,[]),(0,[]),(0,[]),(0,[]),(0,[]),(0,[]),(0,[]),(0,[]),(0,[]),(0,[]),(0,[]),(0,[]),(0,[]),(0,[]),(0,[]),(0,[]),(0,[]),(0,[]),(0,[]),(0,[]),(0,[]),(0,[]),(0,[]),(0,[]),(0,[]),(0,[]),(0,[]),(0,[]),(0,[]),(0,[]),(1,[]),(0,[]),(0,[]),(0,[]),(0,[]),(0,[]),(0,[]),(0,[]),(0,[]),(0,[]),(0,[]),(0,[]),(0,[]),(0,[]),(1,[])]
noncomputable def n110:aW:=⟨ae Tryz.f110,[.tmp 2,.tmp 3],[77,34]⟩
theorem UA:au prog 110 tK=some n110:=fA Tryz.func110
noncomputable def c49:af:=bM 110 (λxs=>bI prog inl TS q1 100 tK n110 xs) TS
theorem aeu:aJ prog c49:=bQ ai1 λargs r h=>bJ mixed ai1 gJ UA h
def vJ:TD:=[(0,[0,2]),(0,[4,5,17]),(0,[3]),(0,[]),(0,[6]),(0,[]),(0,[7]),(0,[]),(0,[8]),(0,[]),(0,[9]),(1,[]),(0,[10]),(0,[]),(0,[11]),(0,[]),(0,[12]),(0,[]),(0,[13]),(0,[]),(0,[14]),(0,[]),(0,[15]),(0,[]),(0,[16]),(0,[]),(0,[]),(0,[]),(0,[18]),(0,[]),(0,[19]),(0,[]),(0,[20]),(0,[]),(0,[21]),(1,[]),(0,[]),(0,[]),(0,[23]),(0,[]),(0,[24,25,26]),(0,[]),(0,[28]),(0,[]),(0,[29,30,31,32]),(0,[]),(0,[34]),(0,[]),(0,[35,36,37]),(0,[]),(0,[1,38,39,40])]
noncomputable def n111:aW:=⟨ae Tryz.f111,[.tmp 2],[3]⟩
theorem Yl:au prog 111 vJ=some n111:=fA Tryz.func111
noncomputable def UL:af:=bM 111 (λxs=>bI prog inl c49 q1 100 vJ n111 xs) c49
theorem al7:aJ prog UL:=bQ aeu λargs r h=>bJ mixed aeu gJ Yl h
def tV:TD:=zz [[1,8,9],[10,40,41,42],[0,2,3,5,19,20,21,22,23],[],[24,25],[],[],[],[27,28],[],[29],[],[31],[],[11,32,33,34,35,36],[],[37],[],[39],[],[13,8000014],[],[12],[],[],[],[44,45],[],[17,46,47,48,49,50],[],[18,51],[],[],[],[16,53,54,55,56,57,58,59,60],[],[61],[],[14,62]]
noncomputable def n52:aW:=⟨ae Tryz.f52,[.tmp 8,.tmp 9],[46,34]⟩
theorem i52:au prog 52 tV=some n52:=fA Tryz.func52
noncomputable def Ac:List AV->Option AV:=λxs=>bI prog inl UL q1 100 tV n52 xs
def Sm:List AV:=[.v (.int .i64 28),.agg [.v (.int .i64 0),.arr 0 [],.v (.bool false),.v (.bool false),.v (.bool false),.v (.bool false),.v (.bool false),.arr 0 [],.v (.bool false),.v (.int .u32 0),.v (.int .u32 0),.v (.int .u32 0),.v (.bool false),.v (.bool false),.v (.bool false),.v (.int .i64 0),.v (.int .i64 0),.v (.bool false),.v (.bool false),.v (.int .i64 0),.arr 0 [],.arr 0 [],.arr 0 [],.arr 0 [],.v (.int .i64 0),.v (.bool false),.v (.bool false),.v (.int .i64 0),.v (.int .i64 0),.v (.int .i64 0),.v (.bool false),.v (.int .i64 0),.arr 0 [],.arr 0 [],.arr 0 [],.arr 0 []],.arr 2 [.v (.int .i64 1),.arr 1 [.v (.int .i64 1)],.v (.bool true),.v (.int .i64 1),.arr 1 [.v (.int .i64 1)],.arr 1 [.v (.int .u32 1065353216)],.arr 0 [],.arr 0 [],.v (.int .i64 1),.arr 1 [.v (.int .i64 2)],.v (.bool true),.v (.int .i64 1),.arr 1 [.v (.int .i64 2)],.arr 2 [.v (.int .u32 1073741824),.v (.int .u32 1077936128)],.arr 0 [],.arr 0 []],.v (.int .i64 1)]
def ak3:AV:= .tuple [.fresh 8 1 [.v (.int .i64 1),.arr 1 [.v (.int .i64 2)],.v (.bool false),.v (.int .i64 0),.arr 0 [],.arr 0 [],.arr 0 [],.arr 0 []],.v (.int .i64 0)]
theorem atb:Ac Sm=some ak3:=by kernel_rfl
def VX:List AV:=[.v (.int .i64 31),.agg [.v (.int .i64 0),.arr 0 [],.v (.bool false),.v (.bool false),.v (.bool false),.v (.bool false),.v (.bool false),.arr 0 [],.v (.bool false),.v (.int .u32 0),.v (.int .u32 0),.v (.int .u32 0),.v (.bool false),.v (.bool false),.v (.bool false),.v (.int .i64 0),.v (.int .i64 0),.v (.bool false),.v (.bool false),.v (.int .i64 0),.arr 0 [],.arr 0 [],.arr 0 [],.arr 0 [],.v (.int .i64 0),.v (.bool false),.v (.bool false),.v (.int .i64 0),.v (.int .i64 0),.v (.int .i64 0),.v (.bool false),.v (.int .i64 0),.arr 0 [],.arr 0 [],.arr 0 [],.arr 0 []],.arr 2 [.v (.int .i64 7),.arr 1 [.v (.int .i64 1)],.v (.bool true),.v (.int .i64 7),.arr 1 [.v (.int .i64 1)],.arr 0 [],.arr 1 [.v (.int .i64 7)],.arr 0 [],.v (.int .i64 7),.arr 1 [.v (.int .i64 1)],.v (.bool true),.v (.int .i64 7),.arr 1 [.v (.int .i64 1)],.arr 0 [],.arr 1 [.v (.int .i64 0)],.arr 0 []],.v (.int .i64 1)]
def abW:AV:= .tuple [.fresh 8 1 [.v (.int .i64 7),.arr 1 [.v (.int .i64 1)],.v (.bool false),.v (.int .i64 0),.arr 0 [],.arr 0 [],.arr 0 [],.arr 0 []],.v (.int .i64 0)]
theorem axX:Ac VX=some abW:=by kernel_rfl
def ZF:List AV:=[.v (.int .i64 32),.agg [.v (.int .i64 0),.arr 0 [],.v (.bool false),.v (.bool false),.v (.bool false),.v (.bool false),.v (.bool false),.arr 0 [],.v (.bool false),.v (.int .u32 0),.v (.int .u32 0),.v (.int .u32 0),.v (.bool false),.v (.bool false),.v (.bool false),.v (.int .i64 0),.v (.int .i64 0),.v (.bool false),.v (.bool false),.v (.int .i64 0),.arr 0 [],.arr 0 [],.arr 0 [],.arr 0 [],.v (.int .i64 0),.v (.bool false),.v (.bool false),.v (.int .i64 0),.v (.int .i64 0),.v (.int .i64 0),.v (.bool false),.v (.int .i64 0),.arr 0 [],.arr 0 [],.arr 0 [],.arr 0 []],.arr 2 [.v (.int .i64 7),.arr 1 [.v (.int .i64 2)],.v (.bool true),.v (.int .i64 7),.arr 1 [.v (.int .i64 2)],.arr 0 [],.arr 2 [.v (.int .i64 (-7)),.v (.int .i64 7)],.arr 0 [],.v (.int .i64 7),.arr 1 [.v (.int .i64 2)],.v (.bool true),.v (.int .i64 7),.arr 1 [.v (.int .i64 2)],.arr 0 [],.arr 2 [.v (.int .i64 3),.v (.int .i64 (-3))],.arr 0 []],.v (.int .i64 1)]
def aeV:AV:= .tuple [.fresh 8 1 [.v (.int .i64 7),.arr 1 [.v (.int .i64 2)],.v (.bool false),.v (.int .i64 0),.arr 0 [],.arr 0 [],.arr 0 [],.arr 0 []],.v (.int .i64 0)]
theorem aKm:Ac ZF=some aeV:=by kernel_rfl
def XI:List AV:=[.v (.int .i64 32),.agg [.v (.int .i64 0),.arr 0 [],.v (.bool false),.v (.bool false),.v (.bool false),.v (.bool false),.v (.bool false),.arr 0 [],.v (.bool false),.v (.int .u32 0),.v (.int .u32 0),.v (.int .u32 0),.v (.bool false),.v (.bool false),.v (.bool true),.v (.int .i64 0),.v (.int .i64 0),.v (.bool false),.v (.bool false),.v (.int .i64 0),.arr 0 [],.arr 0 [],.arr 0 [],.arr 0 [],.v (.int .i64 0),.v (.bool false),.v (.bool false),.v (.int .i64 0),.v (.int .i64 0),.v (.int .i64 0),.v (.bool false),.v (.int .i64 0),.arr 0 [],.arr 0 [],.arr 0 [],.arr 0 []],.arr 2 [.v (.int .i64 1),.arr 1 [.v (.int .i64 1)],.v (.bool true),.v (.int .i64 1),.arr 1 [.v (.int .i64 1)],.arr 1 [.v (.int .u32 3236954112)],.arr 0 [],.arr 0 [],.v (.int .i64 1),.arr 1 [.v (.int .i64 1)],.v (.bool true),.v (.int .i64 1),.arr 1 [.v (.int .i64 1)],.arr 1 [.v (.int .u32 1073741824)],.arr 0 [],.arr 0 []],.v (.int .i64 1)]
def afo:AV:= .tuple [.fresh 8 1 [.v (.int .i64 1),.arr 1 [.v (.int .i64 1)],.v (.bool false),.v (.int .i64 0),.arr 0 [],.arr 0 [],.arr 0 [],.arr 0 []],.v (.int .i64 0)]
theorem aK3:Ac XI=some afo:=by kernel_rfl
noncomputable def z52:List AV->Option AV:=λxs=>if gZ (iH 8) xs Sm=true then some ak3 else if gZ (iH 8) xs VX=true then some abW else if gZ (iH 8) xs ZF=true then some aeV else if gZ (iH 8) xs XI=true then some afo else Ac xs
noncomputable def c51:af:=bM 52 z52 UL
theorem I8(args:List AV)(r:AV)(h:Ac args=some r):aA prog 52 args r:=by
  unfold Ac at h
  exact bJ mixed al7 gJ i52 h
theorem alN:aJ prog c51:=bQ al7 fun args r h=>by
  unfold z52 at h
  by_cases h0:gZ (iH 8) args Sm=true
  · rw[if_pos h0]at h;injection h with h;subst h;rw[mg (sO 8) h0];exact I8 _ _ atb
  rw[if_neg h0]at h
  by_cases h1:gZ (iH 8) args VX=true
  · rw[if_pos h1]at h;injection h with h;subst h;rw[mg (sO 8) h1];exact I8 _ _ axX
  rw[if_neg h1]at h
  by_cases h2:gZ (iH 8) args ZF=true
  · rw[if_pos h2]at h;injection h with h;subst h;rw[mg (sO 8) h2];exact I8 _ _ aKm
  rw[if_neg h2]at h
  by_cases h3:gZ (iH 8) args XI=true
  · rw[if_pos h3]at h;injection h with h;subst h;rw[mg (sO 8) h3];exact I8 _ _ aK3
  rw[if_neg h3]at h
  exact I8 _ _ h
def vI:TD:=zz [[5],[6,26],[9,10],[],[12],[],[13,14,15,16,17],[],[18],[],[20,21],[],[1,7,22,23,24,25],[],[0],[],[27,28,29],[],[31],[],[32,33,34],[],[36],[],[37,38,39],[],[8,40]]
noncomputable def n53:aW:=⟨ae Tryz.f53,[.cell 4 28,.tmp 5],[28,34]⟩
theorem i53:au prog 53 vI=some n53:=fA Tryz.func53
noncomputable def ML:af:=bM 53 (λxs=>bI prog inl c51 q1 100 vI n53 xs) c51
theorem aag:aJ prog ML:=bQ alN λargs r h=>bJ mixed alN gJ i53 h
def qR:TD:=[(0,[1,6,7]),(0,[21,22,23]),(0,[14,15]),(0,[]),(0,[]),(0,[]),(0,[17,18,19,20,41005000008]),(0,[]),(0,[]),(0,[]),(0,[]),(0,[]),(0,[25,26]),(0,[]),(0,[27,28]),(0,[]),(0,[30,31]),(0,[]),(0,[32]),(0,[]),(0,[34]),(0,[]),(1008,[10,11,35,36,37,38,39,40,41,42,43,44,45]),(0,[]),(0,[46]),(0,[]),(10,[0,2,4,47,48,49,50,51,52,53,54]),(0,[]),(0,[55]),(0,[]),(0,[57]),(0,[]),(23384026197294446691298571404717660483291694666880,[58,59,60,61,62,63,64,65,66,67,68,69,70,71,72]),(0,[]),(0,[12,73,74,75,76,77,78,79,80,81,82,83]),(0,[]),(0,[8,13,84,85])]
noncomputable def n25:aW:=⟨ae Tryz.f25,[.tmp 6,.tmp 7],[56,34]⟩
theorem i25:au prog 25 qR=some n25:=fA Tryz.func25
noncomputable def q2:bg:=dO prog inl ML q1 100 25 qR n25 q1
theorem iZ:dU prog q2:=iF mixed aag gJ i25 gJ
def tX:TD:=zz [[2],[0,4,5],[6,7,8],[],[],[],[9,10,11],[],[12],[],[14,15],[],[16,17,18,19],[],[20,21,22,23,24,25],[],[3,26]]
noncomputable def n195:aW:=⟨ae Tryz.f195,[.tmp 2],[22]⟩
theorem V6:au prog 195 tX=some n195:=fA Tryz.func195
noncomputable def c53:af:=bM 195 (λxs=>bI prog inl ML q2 100 tX n195 xs) ML
theorem aeY:aJ prog c53:=bQ aag λargs r h=>bJ mixed aag iZ V6 h
def ui:TD:=zz [[4,5],[1,30,31,32],[11,12,13,14,15],[],[16],[],[18],[],[6,7,19,20,21,22,23,24],[],[],[],[26,27,28],[],[0,29],[],[],[],[34,35,36],[],[9,37,38,39,40,41,42],[],[10,43,44,45],[],[46],[],[8,47]]
noncomputable def n194:aW:=⟨ae Tryz.f194,[.tmp 4,.tmp 5],[22,34]⟩
theorem i194:au prog 194 ui=some n194:=fA Tryz.func194
noncomputable def UK:af:=bM 194 (λxs=>bI prog inl c53 q2 100 ui n194 xs) c53
theorem akj:aJ prog UK:=bQ aeY λargs r h=>bJ mixed aeY iZ i194 h
def um:TD:=zz [[6,7],[0,14,65,66,67],[8,18,19,20,21,22],[16,17],[23],[],[25],[],[9,10,26,27,28,29,30],[],[31],[],[33],[],[11,34,35,36,37,38,39],[],[12,13,40,41,42,43,44,45,46],[],[],[],[2,48,49,50,51,52,53,1000000014],[],[54],[],[56],[],[1,13,57,58,59,60,61,62,63],[],[],[],[64],[],[],[],[69,70,71],[],[72,73,74,75],[],[77,78,79,80,81,82,83,84],[],[85],[],[15,86]]
noncomputable def n115:aW:=⟨ae Tryz.f115,[.tmp 6,.tmp 7],[3,34]⟩
theorem ZW:au prog 115 um=some n115:=fA Tryz.func115
noncomputable def XH:af:=bM 115 (λxs=>bI prog inl UK q2 100 um n115 xs) UK
theorem aeC:aJ prog XH:=bQ akj λargs r h=>bJ mixed akj iZ ZW h
def uX:TD:=[(0,[6]),(0,[]),(20,[0,1,2,8,9,10,11,12,13,14,15,16,17,18,19,20,21,22,23,24,25,26]),(0,[]),(0,[7,27])]
noncomputable def n55:aW:=⟨ae Tryz.f55,[.tmp 6],[3]⟩
theorem i55:au prog 55 uX=some n55:=fA Tryz.func55
noncomputable def Uu:af:=bM 55 (λxs=>bI prog inl XH q2 100 uX n55 xs) XH
theorem ajh:aJ prog Uu:=bQ aeC λargs r h=>bJ mixed aeC iZ i55 h
def uH:TD:=[(0,[2]),(0,[0,29,30]),(0,[4,5,6,7,8,9,10,11,12,13,14,15,16,17,18,19,20,21,22,23,24]),(0,[]),(0,[]),(0,[]),(0,[26,27,28]),(0,[]),(0,[]),(0,[]),(0,[32]),(0,[]),(13,[3,33,34,35,36,37,38,39,40,41,42,43,44]),(0,[]),(0,[]),(0,[]),(0,[46]),(0,[]),(0,[])]
noncomputable def n26:aW:=⟨ae Tryz.f26,[.tmp 2],[4]⟩
theorem i26:au prog 26 uH=some n26:=fA Tryz.func26
noncomputable def YE:af:=bM 26 (λxs=>bI prog inl Uu q2 100 uH n26 xs) Uu
theorem abR:aJ prog YE:=bQ ajh λargs r h=>bJ mixed ajh iZ i26 h
def FX:TD:=zz [[2],[],[0,3,4,5]]
noncomputable def n126:aW:=⟨ae Tryz.f126,[.tmp 2],[4]⟩
theorem WU:au prog 126 FX=some n126:=fA Tryz.func126
noncomputable def c58:af:=bM 126 (λxs=>bI prog inl YE q2 100 FX n126 xs) YE
theorem acw:aJ prog c58:=bQ abR λargs r h=>bJ mixed abR iZ WU h
def CW:TD:=zz [[],[],[3],[],[5,6],[],[],[],[7],[],[9,10],[],[11,12],[],[13],[],[15,16],[],[17,18],[],[0,19,20,21,22,23,24]]
noncomputable def ae0:aW:=⟨ae Tryz.f361,[.tmp 2],[3]⟩
theorem abw:au prog 361 CW=some ae0:=fA Tryz.func361
noncomputable def c59:af:=bM 361 (λxs=>bI prog inl c58 q2 100 CW ae0 xs) c58
theorem amw:aJ prog c59:=bQ acw λargs r h=>bJ mixed acw iZ abw h
def DD:TD:=zz [[2],[],[0],[],[],[],[]]
noncomputable def akG:aW:=⟨ae Tryz.f364,[.tmp 2],[23]⟩
theorem SC:au prog 364 DD=some akG:=fA Tryz.func364
noncomputable def XK:af:=bM 364 (λxs=>bI prog inl c59 q2 100 DD akG xs) c59
theorem afO:aJ prog XK:=bQ amw λargs r h=>bJ mixed amw iZ SC h
def Ee:TD:=[(0,[10]),(0,[]),(0,[21,22]),(0,[3,4,11]),(0,[24,25,26,27,28,29]),(0,[14,15,16,99,111]),(0,[30,31]),(0,[]),(0,[33,34,35,36,37,38]),(0,[]),(0,[39,40,41]),(0,[]),(0,[43,44]),(0,[]),(0,[45,46,47]),(0,[]),(0,[48,49,50,51,52]),(0,[]),(0,[]),(0,[]),(0,[53]),(0,[]),(0,[54,55,56]),(0,[]),(0,[57,58,59,60,61]),(0,[]),(0,[62,63,64]),(0,[]),(0,[65,66,67,68,69,70,71,72,73,74,75]),(0,[]),(0,[18,76,77,78,79,80,81,82]),(0,[]),(0,[17,83,84,85,86,87]),(0,[]),(0,[89,90]),(0,[]),(0,[91,92,93,94]),(0,[]),(0,[96,97,98]),(0,[]),(0,[]),(0,[]),(0,[]),(0,[]),(0,[100,101,102,103,104,105,106,107]),(0,[]),(0,[109,110]),(0,[]),(0,[112]),(0,[]),(0,[113]),(0,[]),(0,[114,115,116,117,118]),(0,[]),(0,[120,121]),(0,[]),(0,[2,12,122,123,124]),(0,[]),(0,[125]),(0,[]),(0,[127,128]),(0,[]),(0,[129]),(0,[]),(0,[131,132,133]),(0,[]),(0,[13,19,134,135,136,137,138,139]),(0,[]),(0,[140]),(0,[]),(0,[142,143,144]),(0,[]),(0,[0,1,20,145,146,147,148,149]),(0,[]),(0,[]),(0,[]),(0,[]),(0,[]),(0,[]),(0,[]),(0,[]),(0,[]),(0,[]),(0,[]),(0,[]),(0,[]),(0,[]),(0,[]),(0,[]),(0,[]),(0,[]),(0,[]),(0,[]),(0,[]),(0,[]),(0,[]),(0,[]),(0,[]),(0,[]),(0,[]),(0,[]),(0,[]),(0,[]),(0,[]),(0,[]),(0,[]),(0,[]),(0,[]),(0,[]),(0,[]),(0,[]),(0,[]),(0,[]),(0,[]),(0,[]),(0,[]),(0,[]),(0,[]),(0,[]),(0,[]),(0,[]),(0,[]),(0,[]),(0,[]),(0,[]),(0,[]),(0,[]),(0,[]),(0,[]),(0,[]),(0,[]),(0,[]),(0,[]),(0,[]),(0,[]),(0,[]),(0,[]),(0,[]),(0,[]),(0,[]),(0,[]),(0,[]),(0,[]),(0,[]),(0,[]),(0,[]),(0,[]),(0,[]),(0,[]),(0,[]),(0,[]),(0,[]),(0,[]),(0,[]),(0,[]),(0,[]),(0,[]),(0,[]),(0,[]),(0,[]),(0,[]),(0,[]),(0,[]),(0,[]),(0,[]),(0,[]),(0,[]),(0,[]),(0,[]),(0,[]),(0,[]),(0,[]),(0,[]),(0,[]),(0,[]),(0,[]),(0,[]),(0,[]),(0,[]),(0,[]),(0,[]),(0,[]),(0,[]),(0,[]),(0,[]),(0,[]),(0,[]),(0,[]),(0,[]),(0,[]),(0,[]),(0,[]),(0,[]),(0,[]),(0,[]),(0,[]),(0,[]),(0,[]),(0,[]),(0,[]),(0,[]),(0,[]),(0,[]),(0,[]),(0,[]),(0,[]),(0,[]),(0,[]),(0,[]),(0,[]),(0,[]),(0,[]),(0,[]),(0,[]),(0,[]),(0,[]),(0,[]),(0,[]),(0,[]),(0,[]),(0,[]),(0,[]),(0,[]),(1,[])]
noncomputable def n313:aW:=⟨ae Tryz.f313,[.tmp 10],[23]⟩
theorem TZ:au prog 313 Ee=some n313:=fA Tryz.func313
noncomputable def Zz:af:=bM 313 (λxs=>bI prog inl XK q2 100 Ee n313 xs) XK
theorem acC:aJ prog Zz:=bQ afO λargs r h=>bJ mixed afO iZ TZ h
def Fg:TD:=zz [[],[3,4],[6,7,8,9],[],[10,11,12],[],[0,13,14,15,16],[],[17,18,19,20,21,22],[],[24,25],[],[26,27,28],[],[29,30,31],[],[33,34],[],[35,36,37],[],[5,38]]
noncomputable def aef:aW:=⟨ae Tryz.f363,[.cell 2 236],[236]⟩
theorem VV:au prog 363 Fg=some aef:=fA Tryz.func363
noncomputable def UD:af:=bM 363 (λxs=>bI prog inl Zz q2 100 Fg aef xs) Zz
theorem ahH:aJ prog UD:=bQ acC λargs r h=>bJ mixed acC iZ VV h
def DV:TD:=[(0,[6]),(0,[1,2]),(0,[14,15,16,17]),(0,[7,13]),(0,[19,20,21,22,23,24,25,26,27,28,29,30,31,32,33,34,35,36,37,38,39]),(0,[]),(0,[]),(0,[]),(0,[41,42]),(0,[]),(0,[43]),(0,[]),(0,[45,46]),(0,[]),(0,[47]),(0,[]),(0,[49,50,51,52,53,54,55,56]),(0,[]),(0,[57,58]),(0,[]),(0,[60]),(0,[]),(0,[61,62]),(0,[]),(0,[63,64,65,66]),(0,[]),(0,[68,69]),(0,[]),(0,[70,71,72,73,74]),(0,[]),(10,[75,76,77,78,79,80]),(0,[]),(0,[81]),(0,[]),(0,[83,84,85]),(0,[]),(0,[86,87]),(0,[]),(0,[88,89,90]),(0,[]),(0,[91,92,93,94,95]),(0,[]),(8,[96,97,98,99,100,101,102]),(0,[]),(0,[9,104,105,106,107,108]),(0,[]),(0,[109,110,111,112,113,114,115,116,117]),(0,[]),(0,[119]),(0,[]),(0,[120,121,122,123,124,125,126,127,128]),(0,[]),(0,[130,131,132]),(0,[]),(0,[133,134]),(0,[]),(0,[136,137,138]),(0,[]),(0,[139,140,141,142,143,144,145,146]),(0,[]),(0,[0,8,10,11,12,147,148,149,150,151,152,153,154])]
noncomputable def n308:aW:=⟨ae Tryz.f308,[.tmp 6],[23]⟩
theorem YU:au prog 308 DV=some n308:=fA Tryz.func308
noncomputable def TK:af:=bM 308 (λxs=>bI prog inl UD q2 100 DV n308 xs) UD
theorem afs:aJ prog TK:=bQ ahH λargs r h=>bJ mixed ahH iZ YU h
def DI:TD:=zz [[4],[],[0,1,5,6,7]]
noncomputable def n216:aW:=⟨ae Tryz.f216,[.tmp 4],[23]⟩
theorem U3:au prog 216 DI=some n216:=fA Tryz.func216
noncomputable def c64:af:=bM 216 (λxs=>bI prog inl TK q2 100 DI n216 xs) TK
theorem akT:aJ prog c64:=bQ afs λargs r h=>bJ mixed afs iZ U3 h
def D8:TD:=zz [[2,3],[],[6,7,8,9],[],[0,10,11,12],[],[13],[],[15],[],[4,5,16,17,18]]
noncomputable def n312:aW:=⟨ae Tryz.f312,[.tmp 2,.tmp 3],[172,3]⟩
theorem RD:au prog 312 D8=some n312:=fA Tryz.func312
noncomputable def Yj:af:=bM 312 (λxs=>bI prog inl c64 q2 100 D8 n312 xs) c64
theorem ahn:aJ prog Yj:=bQ akT λargs r h=>bJ mixed akT iZ RD h
def FZ:TD:=zz [[4],[],[10,11,12,13,14,15,16,17,18,19,20,21,22,23,24],[6,7],[],[],[26,27],[],[28],[],[29,30,31,32,33],[],[1,34,35,36,37,38],[],[39,40],[],[42,43,44],[],[46],[],[47,48,49,50,51],[],[52],[],[53,54,55],[],[56,57],[],[59,60],[],[61,62,63,64],[],[0,5,8,65,66,67,68,69,70,71]]
noncomputable def n217:aW:=⟨ae Tryz.f217,[.tmp 4],[23]⟩
theorem aad:au prog 217 FZ=some n217:=fA Tryz.func217
noncomputable def c66:af:=bM 217 (λxs=>bI prog inl Yj q2 100 FZ n217 xs) Yj
theorem alv:aJ prog c66:=bQ ahn λargs r h=>bJ mixed ahn iZ aad h
def ahl:TD:=zz [[0,2],[],[1,3]]
noncomputable def n196:aW:=⟨ae Tryz.f196,[.tmp 2],[84]⟩
theorem i196:au prog 196 ahl=some n196:=fA Tryz.func196
noncomputable def Yv:af:=bM 196 (λxs=>bI prog inl c66 q2 100 ahl n196 xs) c66
theorem aih:aJ prog Yv:=bQ alv λargs r h=>bJ mixed alv iZ i196 h
def ala:TD:=zz [[0,2],[],[1,3]]
noncomputable def n207:aW:=⟨ae Tryz.f207,[.tmp 2],[84]⟩
theorem aqx:au prog 207 ala=some n207:=fA Tryz.func207
noncomputable def Vm:af:=bM 207 (λxs=>bI prog inl Yv q2 100 ala n207 xs) Yv
theorem akQ:aJ prog Vm:=bQ aih λargs r h=>bJ mixed aih iZ aqx h
def adx:TD:=zz [[2],[3],[0],[],[5],[],[],[],[7],[],[],[],[9],[],[],[],[11],[],[],[],[13],[],[],[],[15],[],[],[],[17],[],[],[],[19],[],[],[],[]]
noncomputable def n219:aW:=⟨ae Tryz.f219,[.tmp 2],[81]⟩
theorem axn:au prog 219 adx=some n219:=fA Tryz.func219
noncomputable def VS:af:=bM 219 (λxs=>bI prog inl Vm q2 100 adx n219 xs) Vm
theorem ak7:aJ prog VS:=bQ akQ λargs r h=>bJ mixed akQ iZ axn h
def aik:TD:=zz [[1,4],[3,5],[],[],[7],[],[8],[],[10],[],[11],[],[13],[],[14],[],[16],[],[17],[],[19],[],[20],[],[22],[],[23],[],[25],[],[26],[],[28],[],[],[],[30],[],[],[],[32],[],[33,34],[],[36],[],[37],[],[39],[],[40,41],[],[43],[],[44],[],[46],[],[],[],[48],[],[],[],[50],[],[],[],[52],[],[],[],[54],[],[],[],[56],[],[],[],[58],[],[],[],[60],[],[],[],[0,61,62,63]]
noncomputable def n116:aW:=⟨ae Tryz.f116,[.tmp 4],[84]⟩
theorem atm:au prog 116 aik=some n116:=fA Tryz.func116
noncomputable def c70:af:=bM 116 (λxs=>bI prog inl VS q2 100 aik n116 xs) VS
theorem ab3:aJ prog c70:=bQ ak7 λargs r h=>bJ mixed ak7 iZ atm h
def F7:TD:=zz [[4],[],[5],[],[7,8],[],[0,1,9,10,11]]
noncomputable def n227:aW:=⟨ae Tryz.f227,[.tmp 4],[2]⟩
theorem i227:au prog 227 F7=some n227:=fA Tryz.func227
noncomputable def TU:af:=bM 227 (λxs=>bI prog inl c70 q2 100 F7 n227 xs) c70
theorem ac9:aJ prog TU:=bQ ab3 λargs r h=>bJ mixed ab3 iZ i227 h
def ED:TD:=zz [[5],[],[0,7,8,9,10,11,12,13],[],[2,14,15,16,17,18,19,20,21,22,23,24],[],[26,27,28],[],[1,6,29]]
noncomputable def n323:aW:=⟨ae Tryz.f323,[.tmp 5],[2]⟩
theorem aaU:au prog 323 ED=some n323:=fA Tryz.func323
noncomputable def c72:af:=bM 323 (λxs=>bI prog inl TU q2 100 ED n323 xs) TU
theorem akg:aJ prog c72:=bQ ac9 λargs r h=>bJ mixed ac9 iZ aaU h
def alM:TD:=zz [[0,2],[],[1,3]]
noncomputable def n228:aW:=⟨ae Tryz.f228,[.tmp 2],[85]⟩
theorem i228:au prog 228 alM=some n228:=fA Tryz.func228
noncomputable def Zy:af:=bM 228 (λxs=>bI prog inl c72 q2 100 alM n228 xs) c72
theorem ajn:aJ prog Zy:=bQ akg λargs r h=>bJ mixed akg iZ i228 h
def acN:TD:=zz [[1,4],[3,5],[0],[],[7],[],[],[],[9],[],[],[],[11],[],[],[],[13],[],[],[],[15],[],[],[],[17],[],[],[],[19],[],[],[],[21],[],[22,23,24],[],[26],[],[],[],[28],[],[],[],[]]
noncomputable def n117:aW:=⟨ae Tryz.f117,[.tmp 4],[85]⟩
theorem i117:au prog 117 acN=some n117:=fA Tryz.func117
noncomputable def VE:af:=bM 117 (λxs=>bI prog inl Zy q2 100 acN n117 xs) Zy
theorem akk:aJ prog VE:=bQ ajn λargs r h=>bJ mixed ajn iZ i117 h
def d56:TD:=[(0,[1]),(0,[3,13]),(8,[6,7,8,9,10,11,12]),(0,[]),(0,[0]),(0,[]),(0,[15]),(0,[]),(0,[16]),(0,[]),(0,[18]),(0,[]),(0,[19]),(0,[]),(0,[21]),(0,[]),(0,[22]),(0,[]),(0,[24]),(0,[]),(0,[25]),(0,[]),(0,[27]),(0,[]),(0,[28]),(0,[]),(0,[30]),(0,[]),(0,[31,32]),(0,[]),(0,[34]),(0,[]),(0,[35]),(0,[]),(0,[36]),(0,[]),(0,[37]),(0,[]),(0,[39]),(0,[]),(0,[40]),(0,[]),(0,[41]),(0,[]),(0,[43]),(0,[]),(0,[44]),(0,[]),(0,[45]),(0,[]),(0,[47]),(0,[]),(0,[48]),(0,[]),(0,[49]),(0,[]),(0,[51]),(0,[]),(0,[52]),(0,[]),(0,[53]),(0,[]),(0,[5,54])]
noncomputable def n56:aW:=⟨ae Tryz.f56,[.cell 4 90],[90]⟩
theorem i56:au prog 56 d56=some n56:=fA Tryz.func56
noncomputable def c75:af:=bM 56 (λxs=>bI prog inl VE q2 100 d56 n56 xs) VE
theorem Qp:aJ prog c75:=bQ akk λargs r h=>bJ mixed akk iZ i56 h
def AU:TD:=[(0,[1]),(0,[0,2,4,6,7,8,9]),(1766847064778384329583328192277302464788767441907706228294420472581489728,[10,11,12,13,14,15,16,17,18,19,20,21,22,23,24,25,26,27]),(0,[]),(14,[28,29,30,31,32,33,34,35,36,37,38,39]),(0,[]),(20,[40,41,42,43,44,45,46,47,48,49,50,51,52,53,54,55,56,57,58,59]),(0,[]),(0,[61,62,63,64,65,66,67,68,69,70,71]),(0,[]),(21,[72,73,74,75,76,77,78,79,80,81,82,83,84,85,86,87,88,89,90,91,92]),(0,[]),(0,[94,95,96]),(0,[]),(20,[97,98,99,100,101,102,103,104,105,106,107,108,109,110,111,112,113,114,115,116]),(0,[]),(0,[118,119,120,121,122,123,124,125,126,127,128]),(0,[]),(20,[129,130,131,132,133,134,135,136,137,138,139,140,141,142,143,144,145,146,147,148]),(0,[]),(0,[150,151,152]),(0,[]),(20,[153,154,155,156,157,158,159,160,161,162,163,164,165,166,167,168,169,170,171,172])]
noncomputable def n60:aW:=⟨ae Tryz.f60,[],[]⟩
theorem i60:au prog 60 AU=some n60:=fA Tryz.func60
noncomputable def q3:bg:=dO prog inl c75 q2 100 60 AU n60 q2
theorem al4:dU prog q3:=iF mixed Qp iZ i60 iZ
def tC:TD:=[(10,[8,9,10,11,12,13,14,15,16]),(0,[0,2,6,7]),(0,[1,17]),(0,[]),(0,[18,19]),(0,[26]),(0,[21,22]),(0,[]),(0,[23,24,25]),(0,[]),(0,[27,28,29,30]),(0,[]),(0,[32]),(0,[]),(12,[33,34,35,36,37,38,39,40,41,42,43]),(0,[]),(0,[45,46,47]),(0,[]),(0,[48,49,50]),(0,[]),(0,[52]),(0,[]),(0,[53,54,55]),(0,[]),(0,[57]),(0,[]),(0,[58,59,60])]
noncomputable def n27:aW:=⟨ae Tryz.f27,[],[]⟩
theorem i27:au prog 27 tC=some n27:=fA Tryz.func27
noncomputable def q4:bg:=dO prog inl c75 q3 100 27 tC n27 q3
theorem XF:dU prog q4:=iF mixed Qp al4 i27 al4
def d11:TD:=zz [[1,7],[],[0,2,4,10,11,12,13,14,15,16],[],[17],[],[19,20],[],[9,21],[],[23],[],[24,25,26,27,28,29],[],[8,30,31,32,33]]
noncomputable def n11:aW:=⟨ae Tryz.f11,[.cell 6 28,.tmp 7],[28,34]⟩
theorem i11:au prog 11 d11=some n11:=fA Tryz.func11
noncomputable def k11:List AV->Option AV:=λxs=>bI prog inl c75 q4 100 d11 n11 xs
def Xk:List AV:=[.v (.int .i64 28),.agg [.v (.int .i64 0),.arr 0 [],.v (.bool false),.v (.bool false),.v (.bool false),.v (.bool false),.v (.bool false),.arr 0 [],.v (.bool false),.v (.int .u32 0),.v (.int .u32 0),.v (.int .u32 0),.v (.bool false),.v (.bool false),.v (.bool false),.v (.int .i64 0),.v (.int .i64 0),.v (.bool false),.v (.bool false),.v (.int .i64 0),.arr 0 [],.arr 0 [],.arr 0 [],.arr 0 [],.v (.int .i64 0),.v (.bool false),.v (.bool false),.v (.int .i64 0),.v (.int .i64 0),.v (.int .i64 0),.v (.bool false),.v (.int .i64 0),.arr 0 [],.arr 0 [],.arr 0 [],.arr 0 []],.arr 2 [.v (.int .i64 1),.arr 1 [.v (.int .i64 1)],.arr 1 [.v (.int .u32 1065353216)],.arr 0 [],.arr 0 [],.v (.int .i64 1),.arr 1 [.v (.int .i64 2)],.arr 2 [.v (.int .u32 1073741824),.v (.int .u32 1077936128)],.arr 0 [],.arr 0 []]]
def aiv:AV:= .tuple [.agg [.v (.int .i64 1),.fresh 1 1 [.v (.int .i64 2)],.fresh 1 2 [.v (.int .u32 1077936128),.v (.int .u32 1082130432)],.fresh 1 0 [],.fresh 1 0 []],.v (.int .i64 0)]
theorem aKf:k11 Xk=some aiv:=by kernel_rfl
def abE:List AV:=[.v (.int .i64 31),.agg [.v (.int .i64 0),.arr 0 [],.v (.bool false),.v (.bool false),.v (.bool false),.v (.bool false),.v (.bool false),.arr 0 [],.v (.bool false),.v (.int .u32 0),.v (.int .u32 0),.v (.int .u32 0),.v (.bool false),.v (.bool false),.v (.bool false),.v (.int .i64 0),.v (.int .i64 0),.v (.bool false),.v (.bool false),.v (.int .i64 0),.arr 0 [],.arr 0 [],.arr 0 [],.arr 0 [],.v (.int .i64 0),.v (.bool false),.v (.bool false),.v (.int .i64 0),.v (.int .i64 0),.v (.int .i64 0),.v (.bool false),.v (.int .i64 0),.arr 0 [],.arr 0 [],.arr 0 [],.arr 0 []],.arr 2 [.v (.int .i64 7),.arr 1 [.v (.int .i64 1)],.arr 0 [],.arr 1 [.v (.int .i64 7)],.arr 0 [],.v (.int .i64 7),.arr 1 [.v (.int .i64 1)],.arr 0 [],.arr 1 [.v (.int .i64 0)],.arr 0 []]]
def abN:AV:= .tuple [.agg [.v (.int .i64 0),.fresh 1 0 [],.fresh 1 0 [],.fresh 1 0 [],.fresh 1 0 []],.v (.int .i64 10)]
theorem aJQ:k11 abE=some abN:=by kernel_rfl
def XL:List AV:=[.v (.int .i64 32),.agg [.v (.int .i64 0),.arr 0 [],.v (.bool false),.v (.bool false),.v (.bool false),.v (.bool false),.v (.bool false),.arr 0 [],.v (.bool false),.v (.int .u32 0),.v (.int .u32 0),.v (.int .u32 0),.v (.bool false),.v (.bool false),.v (.bool false),.v (.int .i64 0),.v (.int .i64 0),.v (.bool false),.v (.bool false),.v (.int .i64 0),.arr 0 [],.arr 0 [],.arr 0 [],.arr 0 [],.v (.int .i64 0),.v (.bool false),.v (.bool false),.v (.int .i64 0),.v (.int .i64 0),.v (.int .i64 0),.v (.bool false),.v (.int .i64 0),.arr 0 [],.arr 0 [],.arr 0 [],.arr 0 []],.arr 2 [.v (.int .i64 7),.arr 1 [.v (.int .i64 2)],.arr 0 [],.arr 2 [.v (.int .i64 (-7)),.v (.int .i64 7)],.arr 0 [],.v (.int .i64 7),.arr 1 [.v (.int .i64 2)],.arr 0 [],.arr 2 [.v (.int .i64 3),.v (.int .i64 (-3))],.arr 0 []]]
def amN:AV:= .tuple [.agg [.v (.int .i64 7),.fresh 1 1 [.v (.int .i64 2)],.fresh 1 0 [],.fresh 1 2 [.v (.int .i64 2),.v (.int .i64 (-2))],.fresh 1 0 []],.v (.int .i64 0)]
theorem aJr:k11 XL=some amN:=by kernel_rfl
def U7:List AV:=[.v (.int .i64 32),.agg [.v (.int .i64 0),.arr 0 [],.v (.bool false),.v (.bool false),.v (.bool false),.v (.bool false),.v (.bool false),.arr 0 [],.v (.bool false),.v (.int .u32 0),.v (.int .u32 0),.v (.int .u32 0),.v (.bool false),.v (.bool false),.v (.bool true),.v (.int .i64 0),.v (.int .i64 0),.v (.bool false),.v (.bool false),.v (.int .i64 0),.arr 0 [],.arr 0 [],.arr 0 [],.arr 0 [],.v (.int .i64 0),.v (.bool false),.v (.bool false),.v (.int .i64 0),.v (.int .i64 0),.v (.int .i64 0),.v (.bool false),.v (.int .i64 0),.arr 0 [],.arr 0 [],.arr 0 [],.arr 0 []],.arr 2 [.v (.int .i64 1),.arr 1 [.v (.int .i64 1)],.arr 1 [.v (.int .u32 3236954112)],.arr 0 [],.arr 0 [],.v (.int .i64 1),.arr 1 [.v (.int .i64 1)],.arr 1 [.v (.int .u32 1073741824)],.arr 0 [],.arr 0 []]]
def ahF:AV:= .tuple [.agg [.v (.int .i64 1),.fresh 1 1 [.v (.int .i64 1)],.fresh 1 1 [.v (.int .u32 3217031168)],.fresh 1 0 [],.fresh 1 0 []],.v (.int .i64 0)]
theorem aI1:k11 U7=some ahF:=by kernel_rfl
noncomputable def z11:List AV->Option AV:=λxs=>if gZ (iH 8) xs Xk=true then some aiv else if gZ (iH 8) xs abE=true then some abN else if gZ (iH 8) xs XL=true then some amN else if gZ (iH 8) xs U7=true then some ahF else k11 xs
noncomputable def c76:af:=bM 11 z11 c75
theorem F8(args:List AV)(r:AV)(h:k11 args=some r):aA prog 11 args r:=by
  unfold k11 at h
  exact bJ mixed Qp XF i11 h
theorem Hu:aJ prog c76:=bQ Qp fun args r h=>by
  unfold z11 at h
  by_cases h0:gZ (iH 8) args Xk=true
  · rw[if_pos h0]at h;injection h with h;subst h;rw[mg (sO 8) h0];exact F8 _ _ aKf
  rw[if_neg h0]at h
  by_cases h1:gZ (iH 8) args abE=true
  · rw[if_pos h1]at h;injection h with h;subst h;rw[mg (sO 8) h1];exact F8 _ _ aJQ
  rw[if_neg h1]at h
  by_cases h2:gZ (iH 8) args XL=true
  · rw[if_pos h2]at h;injection h with h;subst h;rw[mg (sO 8) h2];exact F8 _ _ aJr
  rw[if_neg h2]at h
  by_cases h3:gZ (iH 8) args U7=true
  · rw[if_pos h3]at h;injection h with h;subst h;rw[mg (sO 8) h3];exact F8 _ _ aI1
  rw[if_neg h3]at h
  exact F8 _ _ h
def D9:TD:=zz [[8,9],[0,1,11,12,13],[2],[6,7],[],[],[15,16,17],[],[18],[],[20,21,22,23,24,25,26],[],[27]]
noncomputable def n68:aW:=⟨ae Tryz.f68,[],[]⟩
theorem i68:au prog 68 D9=some n68:=fA Tryz.func68
noncomputable def q5:bg:=dO prog inl c76 q4 100 68 D9 n68 q4
theorem ae9:dU prog q5:=iF mixed Hu XF i68 XF
def Bz:TD:=zz [[8,9],[0,1,11,12,13],[2],[6,7],[],[],[15,16,17],[],[18],[],[20,21,22,23,24,25,26],[],[27]]
noncomputable def n69:aW:=⟨ae Tryz.f69,[],[]⟩
theorem i69:au prog 69 Bz=some n69:=fA Tryz.func69
noncomputable def q6:bg:=dO prog inl c76 q5 100 69 Bz n69 q5
theorem al8:dU prog q6:=iF mixed Hu ae9 i69 ae9
def wU:TD:=zz [[8,9],[0,1,11,12,13],[2],[6,7],[],[],[15,16,17],[],[18],[],[20,21,22,23,24,25,26],[],[27]]
noncomputable def n70:aW:=⟨ae Tryz.f70,[],[]⟩
theorem i70:au prog 70 wU=some n70:=fA Tryz.func70
noncomputable def q7:bg:=dO prog inl c76 q6 100 70 wU n70 q6
theorem I4:dU prog q7:=iF mixed Hu al8 i70 al8
def Dp:TD:=zz [[0,7],[],[12,13],[],[14],[],[16,17],[],[1,8,18,19,20,21,22,23,24],[],[25],[],[27,28],[],[10,29,30,31,32,33,34,35,36,37,38,39],[],[40,41,42,43,44,45,46,47,48,49,50,51,52],[],[54],[],[11,55,56],[],[58],[],[59,60,61,62,63,64],[],[65,66,67,68,69,70],[],[2,3,71,72,73,74,75,76],[],[9,77]]
noncomputable def n34:aW:=⟨ae Tryz.f34,[.cell 6 28,.tmp 7],[28,34]⟩
theorem i34:au prog 34 Dp=some n34:=fA Tryz.func34
noncomputable def Wj:af:=bM 34 (λxs=>bI prog inl c76 q7 100 Dp n34 xs) c76
theorem aiC:aJ prog Wj:=bQ Hu λargs r h=>bJ mixed Hu I4 i34 h
def CS:TD:=zz [[1,11],[15],[0,2,6,16,17,18,19,20,21,22],[],[23],[],[25,26],[],[13,27],[],[29],[],[30,31,32,33,34,35,36,37,38,39,40,41,42,43],[],[45],[],[46,47,48,49],[],[],[],[50],[],[51,52],[],[54,55],[],[56,57,58,59],[],[3,4,12,14,60,61,62,63,64,65,66,67,68,69,70,71]]
noncomputable def n15:aW:=⟨ae Tryz.f15,[.cell 10 28,.tmp 11],[28,34]⟩
theorem Xa:au prog 15 CS=some n15:=fA Tryz.func15
noncomputable def c78:af:=bM 15 (λxs=>bI prog inl Wj q7 100 CS n15 xs) Wj
theorem ace:aJ prog c78:=bQ aiC λargs r h=>bJ mixed aiC I4 Xa h
def d23:TD:=zz [[],[],[0,3,4,5,6,7]]
noncomputable def n23:aW:=⟨ae Tryz.f23,[.cell 2 28],[28]⟩
theorem i23:au prog 23 d23=some n23:=fA Tryz.func23
noncomputable def Vr:af:=bM 23 (λxs=>bI prog inl c78 q7 100 d23 n23 xs) c78
theorem afL:aJ prog Vr:=bQ ace λargs r h=>bJ mixed ace I4 i23 h
def d24:TD:=zz [[],[],[0,3,4,5,6,7]]
noncomputable def n24:aW:=⟨ae Tryz.f24,[.cell 2 28],[28]⟩
theorem i24:au prog 24 d24=some n24:=fA Tryz.func24
noncomputable def c80:af:=bM 24 (λxs=>bI prog inl Vr q7 100 d24 n24 xs) Vr
theorem amo:aJ prog c80:=bQ afL λargs r h=>bJ mixed afL I4 i24 h
def d9:TD:=zz [[0],[],[11,12,13,14,15,16,17,18,19,20],[],[3,21,22,23,24,25,26,27,28,29,30],[],[31,32,33,34,35,36,37,38,39,40],[],[41,42,43,44,45,46,47,48,49,50],[],[51,52,53,54,55,56,57,58,59,60],[],[61,62,63,64,65,66,67,68,69,70,71,72,73,74,75,76,77,78,79,80,81],[],[],[],[1,2,4,5,6,7,8,9,10,83,84,85,86,87,88,89,90,91,92,93,94,95,96,97,98,99,100,101,102,103,104,105,106,107,108,109,110,111,112,113,114,115,116,117,118,119,120,121,122,123,124,125,126,127,128,129,130,131,132,133,134,135,136,137,138,139,140,141,142]]
noncomputable def n9:aW:=⟨ae Tryz.f9,[.tmp 0],[4]⟩
theorem i9:au prog 9 d9=some n9:=fA Tryz.func9
noncomputable def c81:af:=bM 9 (λxs=>bI prog inl c80 q7 100 d9 n9 xs) c80
theorem dK:aJ prog c81:=bQ amo λargs r h=>bJ mixed amo I4 i9 h
theorem aw9:c81 9 []=some (.v (.bool true)):=by kernel_rfl
end Aw
theorem aBR:aA prog 9 [] (.v (.bool true)):=Aw.dK 9 [] _ Aw.aw9
end Go.Av
