/- The documents' examples, reckoned by the interpreter itself. Made by a program of mine. Conditions: none. -/
import Derived.Test.YtiagecndhhinfaaGreatLt
import Derived.Test.YtiagecndhhinfaaGreatProg
set_option linter.unusedVariables false
set_option linter.defProp false
set_option maxRecDepth 100000
open Go Go.Proofs
open Tryz (prog)
namespace Go.Av
theorem KrT {p : Prop} (h : p := by kernel_rfl) : p := h
theorem fA{f:FuncId}{fn:Func}{D:TD}{c:Code}(hf:prog.funcs[f]? =some fn)(hb:fn.body=some c:=by exact rfl)(hn:(fn.name== "runtime.NumGoroutine")=false:=by kernel_rfl)(hc:codeOk ⟨fn.ntmps,none,[]⟩ D c=true:=by kernel_rfl):aN prog f D=some ⟨c,fn.results.toList,fn.resultTypes.toList⟩:=Ed hf hb hn hc
namespace Aw
def az(f:Func):Code:=f.body.getD .skip
theorem mixed:prog.follows .mixedOrders=true:=by kernel_rfl
def inl:bG:=jb [24,54,106,107,108,112,120,121,122,123,244,282,283,284,292]
def aaI:bG:=⟨inl.inl,λ_=>[(0,[])]⟩
def c0:aC:=nX
def q0:bz:=fH
theorem aiD:aK prog c0:=oU
theorem Um:eH prog q0:=eY
noncomputable def cb(k:FuncId)(c:aC)(D:TD)(n:aU):aC:=bQ k (λxs=>bI prog inl c q0 100 D n xs) c
theorem kz{k:FuncId}{c:aC}{D:TD}{n:aU}(hc:aK prog c)(i:aN prog k D=some n):aK prog (cb k c D n):=bU hc λargs r h=>bM mixed hc Um i h
def Y5:TD:=zz [[4,5],[],[14,15],[],[16,17],[],[18,19],[],[20,21],[],[22,23,24],[],[8,10,25,26,27,28,29,30],[],[31,32],[],[11,33,34],[],[6,35,36,37,38,39],[],[7,9,12,13,40,41,42,43,44,45,46,47],[],[0,1,48,49,50]]
noncomputable def n281:aU:=⟨az Tryz.f281,[.tmp 4,.tmp 5],[183,183]⟩
theorem aq8:aN prog 281 Y5=some n281:=fA Tryz.func281
noncomputable def c1:=cb 281 c0 Y5 n281
theorem aiO:aK prog c1:=kz aiD aq8
def YR:TD:=zz [[4,5],[],[10,11,12,13,14,15,16,17],[],[6,7,18,19,20,21],[],[0,1,22,23,24,25,26,27],[],[8,9,28,29]]
noncomputable def n248:aU:=⟨az Tryz.f248,[.tmp 4,.tmp 5],[177,177]⟩
theorem aq0:aN prog 248 YR=some n248:=fA Tryz.func248
noncomputable def c2:=cb 248 c1 YR n248
theorem aiR:aK prog c2:=kz aiO aq0
def YI:TD:=[(0,[4]),(0,[8]),(0,[9]),(0,[]),(0,[11]),(0,[]),(0,[1,12,13,14,15,16,17,18,19,20]),(0,[]),(0,[5,21,22,23,24,25]),(0,[]),(0,[27]),(0,[]),(0,[6,28,29,30]),(0,[]),(0,[0,31,32,33]),(0,[]),(0,[34,35,36]),(0,[]),(1007,[38,39,40,41,42,43,44,45,46]),(0,[]),(0,[7,47])]
noncomputable def n207:aU:=⟨az Tryz.f207,[.tmp 4],[22]⟩
theorem aqU:aN prog 207 YI=some n207:=fA Tryz.func207
noncomputable def c3:=cb 207 c2 YI n207
theorem aiS:aK prog c3:=kz aiR aqU
def d10:TD:=zz [[2],[],[0,3,4,5,6,7,8,9,10,11,12]]
noncomputable def n10:aU:=⟨az Tryz.f10,[.tmp 2],[4]⟩
theorem i10:aN prog 10 d10=some n10:=fA Tryz.func10
noncomputable def c4:=cb 10 c3 d10 n10
theorem aiT:aK prog c4:=kz aiS i10
def Jy:TD:=zz [[2],[3],[0],[],[5],[],[],[],[7],[],[],[],[9],[],[],[],[]]
noncomputable def n77:aU:=⟨az Tryz.f77,[.tmp 2],[3]⟩
theorem i77:aN prog 77 Jy=some n77:=fA Tryz.func77
noncomputable def c5:=cb 77 c4 Jy n77
theorem aiU:aK prog c5:=kz aiT i77
def Jb:TD:=zz [[2],[],[0,3,4,5]]
noncomputable def n34:aU:=⟨az Tryz.f34,[.tmp 2],[4]⟩
theorem i34:aN prog 34 Jb=some n34:=fA Tryz.func34
noncomputable def c6:=cb 34 c5 Jb n34
theorem aiV:aK prog c6:=kz aiU i34
def Jz:TD:=zz [[2],[],[0,3,4]]
noncomputable def n79:aU:=⟨az Tryz.f79,[.tmp 2],[4]⟩
theorem i79:aN prog 79 Jz=some n79:=fA Tryz.func79
noncomputable def c7:=cb 79 c6 Jz n79
theorem aiW:aK prog c7:=kz aiV i79
def JA:TD:=zz [[2],[],[0,3,4]]
noncomputable def n80:aU:=⟨az Tryz.f80,[.tmp 2],[4]⟩
theorem i80:aN prog 80 JA=some n80:=fA Tryz.func80
noncomputable def c8:=cb 80 c7 JA n80
theorem aiX:aK prog c8:=kz aiW i80
def Ip:TD:=zz [[3],[],[0,1,4,5,6,7,8,9,10]]
noncomputable def n119:aU:=⟨az Tryz.f119,[.tmp 3],[4]⟩
theorem aqD:aN prog 119 Ip=some n119:=fA Tryz.func119
noncomputable def c9:=cb 119 c8 Ip n119
theorem aiY:aK prog c9:=kz aiX aqD
def Ja:TD:=zz [[3],[],[0,1,4,5,6]]
noncomputable def n277:aU:=⟨az Tryz.f277,[.tmp 3],[4]⟩
theorem aq7:aN prog 277 Ja=some n277:=fA Tryz.func277
noncomputable def c10:=cb 277 c9 Ja n277
theorem aiE:aK prog c10:=kz aiY aq7
def yJ:TD:=zz [[4],[0,1,7,8],[6],[5],[],[],[10],[],[11,12,13,14,15],[],[17],[],[18],[],[]]
noncomputable def n173:aU:=⟨az Tryz.f173,[.tmp 4],[3]⟩
theorem i173:aN prog 173 yJ=some n173:=fA Tryz.func173
noncomputable def c11:=cb 173 c10 yJ n173
theorem aiF:aK prog c11:=kz aiE i173
def yS:TD:=zz [[4],[],[0,1,5,6,7,8]]
noncomputable def n78:aU:=⟨az Tryz.f78,[.tmp 4],[4]⟩
theorem i78:aN prog 78 yS=some n78:=fA Tryz.func78
noncomputable def c12:=cb 78 c11 yS n78
theorem aiG:aK prog c12:=kz aiF i78
def Iw:TD:=zz [[4],[0,1,7,8],[6],[5],[],[],[10],[],[11,12,13,14,15],[],[17],[],[18],[],[]]
noncomputable def n174:aU:=⟨az Tryz.f174,[.tmp 4],[3]⟩
theorem aqF:aN prog 174 Iw=some n174:=fA Tryz.func174
noncomputable def c13:=cb 174 c12 Iw n174
theorem aiH:aK prog c13:=kz aiG aqF
def JB:TD:=zz [[4],[],[0,1,5,6,7,8]]
noncomputable def n81:aU:=⟨az Tryz.f81,[.tmp 4],[4]⟩
theorem i81:aN prog 81 JB=some n81:=fA Tryz.func81
noncomputable def c14:=cb 81 c13 JB n81
theorem aiI:aK prog c14:=kz aiH i81
def yP:TD:=zz [[2,3],[18,19,20],[7],[],[],[],[9,10,11,12,13,14],[],[],[],[16],[],[],[],[],[],[0],[],[],[],[22,23],[],[24,25,26],[],[],[],[6,28,29,30],[],[31],[],[4,32]]
noncomputable def n35:aU:=⟨az Tryz.f35,[.tmp 2,.tmp 3],[3,34]⟩
theorem i35:aN prog 35 yP=some n35:=fA Tryz.func35
noncomputable def c15:=cb 35 c14 yP n35
theorem aiJ:aK prog c15:=kz aiI i35
def Iu:TD:=zz [[0,2],[23],[6,7,8],[],[],[],[10,11,12,13,14,15],[],[16],[],[18],[],[4,19,20,21],[],[22],[],[25],[],[26,27,28],[],[30],[],[31,32,33],[],[1,3,5,34,35,36,37,38,39,40,41,42,43,44,45,46,47,48,49,50],[],[],[],[]]
noncomputable def n17:aU:=⟨az Tryz.f17,[.tmp 2],[34]⟩
theorem i17:aN prog 17 Iu=some n17:=fA Tryz.func17
noncomputable def c16:=cb 17 c15 Iu n17
theorem aiK:aK prog c16:=kz aiJ i17
def JC:TD:=zz [[2],[],[0,3,4,5]]
noncomputable def n82:aU:=⟨az Tryz.f82,[.tmp 2],[22]⟩
theorem i82:aN prog 82 JC=some n82:=fA Tryz.func82
noncomputable def c17:=cb 82 c16 JC n82
theorem aiL:aK prog c17:=kz aiK i82
def JD:TD:=zz [[2],[],[0,3,4,5]]
noncomputable def n83:aU:=⟨az Tryz.f83,[.tmp 2],[24]⟩
theorem i83:aN prog 83 JD=some n83:=fA Tryz.func83
noncomputable def c18:=cb 83 c17 JD n83
theorem aiM:aK prog c18:=kz aiL i83
def JE:TD:=zz [[2],[],[0,3,4,5]]
noncomputable def n84:aU:=⟨az Tryz.f84,[.tmp 2],[25]⟩
theorem i84:aN prog 84 JE=some n84:=fA Tryz.func84
noncomputable def c19:=cb 84 c18 JE n84
theorem aiN:aK prog c19:=kz aiM i84
def JF:TD:=zz [[2],[],[0,3,4,5]]
noncomputable def n85:aU:=⟨az Tryz.f85,[.tmp 2],[26]⟩
theorem i85:aN prog 85 JF=some n85:=fA Tryz.func85
noncomputable def c20:=cb 85 c19 JF n85
theorem aiP:aK prog c20:=kz aiN i85
def Jd:TD:=[(0,[0]),(0,[]),(15,[1,3,4,5,6,7,8,9,10,11,12,13,14,15,16,17])]
noncomputable def n36:aU:=⟨az Tryz.f36,[.cell 2 28],[28]⟩
theorem i36:aN prog 36 Jd=some n36:=fA Tryz.func36
noncomputable def c21:=cb 36 c20 Jd n36
theorem aiQ:aK prog c21:=kz aiP i36
def IB:TD:=[(0,[0]),(0,[9,10,11]),(0,[1,6,7]),(0,[]),(0,[8]),(0,[]),(0,[]),(0,[]),(0,[13,14,15]),(0,[]),(6,[4,5,16,17,18,19,20,21]),(0,[]),(0,[22]),(0,[]),(0,[3,23])]
noncomputable def n18:aU:=⟨az Tryz.f18,[.cell 2 28],[28]⟩
theorem i18:aN prog 18 IB=some n18:=fA Tryz.func18
noncomputable def G6:=cb 18 c21 IB n18
theorem PQ:aK prog G6:=kz aiQ i18
def Za:TD:=zz [[4],[],[5],[],[7],[],[8,9,10,11,12,13,14],[],[15],[],[17,18,19,20,21,22,23,24,25],[],[0,1,26,6000004]]
noncomputable def n292:aU:=⟨az Tryz.f292,[.tmp 4],[169]⟩
theorem ard:aN prog 292 Za=some n292:=fA Tryz.func292
noncomputable def q1:bz:=iE prog inl G6 q0 100 292 Za n292 q0
theorem iy:eH prog q1:=je mixed PQ Um ard Um
def Y0:TD:=zz [[2],[9,10,11],[],[],[],[25,26,27],[],[],[13,14],[],[5,15,16,17,18],[],[19],[],[21],[],[22],[],[3,23,24,3000000006],[],[0],[],[],[],[29,30],[],[8,31,32,33],[],[34],[],[6,35]]
noncomputable def n273:aU:=⟨az Tryz.f273,[.tmp 2],[169]⟩
theorem aq2:aN prog 273 Y0=some n273:=fA Tryz.func273
noncomputable def c23:aC:=bQ 273 (λxs=>bI prog inl G6 q1 100 Y0 n273 xs) G6
theorem VY:aK prog c23:=bU PQ λargs r h=>bM mixed PQ iy aq2 h
def Y1:TD:=zz [[0],[],[1,2,3,4,5,6,7,8,9,10,11,12,13,14,15,16,17,18,19,20,21,22,23,24,25,26,27,28,29,30,31,32,33,34,35,36,37,38,39,40,41,42,43,44,45]]
noncomputable def n274:aU:=⟨az Tryz.f274,[.tmp 0],[169]⟩
theorem aq4:aN prog 274 Y1=some n274:=fA Tryz.func274
noncomputable def c24:aC:=bQ 274 (λxs=>bI prog inl c23 q1 100 Y1 n274 xs) c23
theorem VZ:aK prog c24:=bU VY λargs r h=>bM mixed VY iy aq4 h
def Y2:TD:=zz [[0],[],[1,2,3,4,5,6,7,8,9,10,11,12,13,14,15,16,17,18,19,20,21]]
noncomputable def n275:aU:=⟨az Tryz.f275,[.tmp 0],[169]⟩
theorem aq5:aN prog 275 Y2=some n275:=fA Tryz.func275
noncomputable def c25:aC:=bQ 275 (λxs=>bI prog inl c24 q1 100 Y2 n275 xs) c24
theorem V3:aK prog c25:=bU VZ λargs r h=>bM mixed VZ iy aq5 h
def Y3:TD:=zz [[0],[],[1,2,3,4,5,6,7,8,9,10,11,12,13,14,15,16,17]]
noncomputable def n276:aU:=⟨az Tryz.f276,[.tmp 0],[169]⟩
theorem aq6:aN prog 276 Y3=some n276:=fA Tryz.func276
noncomputable def PR:aC:=bQ 276 (λxs=>bI prog inl c25 q1 100 Y3 n276 xs) c25
theorem V4:aK prog PR:=bU V3 λargs r h=>bM mixed V3 iy aq6 h
def YP:TD:=zz [[0],[],[1,2,3,4,5]]
noncomputable def n238:aU:=⟨az Tryz.f238,[.tmp 0],[169]⟩
theorem aqV:aN prog 238 YP=some n238:=fA Tryz.func238
noncomputable def PS:aC:=bQ 238 (λxs=>bI prog inl PR q1 100 YP n238 xs) PR
theorem V5:aK prog PS:=bU V4 λargs r h=>bM mixed V4 iy aqV h
def Yx:TD:=zz [[],[],[3,4,5,6,7],[],[9],[],[0,10,11,12,13,14]]
noncomputable def n176:aU:=⟨az Tryz.f176,[.cell 2 136],[136]⟩
theorem aqG:aN prog 176 Yx=some n176:=fA Tryz.func176
noncomputable def c28:aC:=bQ 176 (λxs=>bI prog inl PS q1 100 Yx n176 xs) PS
theorem V6:aK prog c28:=bU V5 λargs r h=>bM mixed V5 iy aqG h
def Zt:TD:=[(0,[2,3,4,5]),(0,[]),(0,[0,7,8]),(0,[]),(12,[6,9,10,11,12,13,14,15,16])]
noncomputable def n87:aU:=⟨az Tryz.f87,[.tmp 2,.tmp 3,.tmp 4,.tmp 5],[3,3,3,3]⟩
theorem i87:aN prog 87 Zt=some n87:=fA Tryz.func87
noncomputable def kD:List AV->Option AV:=λxs=>bI prog inl c28 q1 100 Zt n87 xs
def OB:List AV:=[.v (.int .i64 45)]
def acy:AV:= .tuple [.v (.int .i64 1),.v (.int .i64 1),.v (.int .i64 1),.v (.int .i64 1)]
theorem abK:kD OB=some acy:=by kernel_rfl
def OC:List AV:=[.v (.int .i64 46)]
def acz:AV:= .tuple [.v (.int .i64 2),.v (.int .i64 2),.v (.int .i64 1),.v (.int .i64 1)]
theorem abL:kD OC=some acz:=by kernel_rfl
def OQ:List AV:=[.v (.int .i64 47)]
def acJ:AV:= .tuple [.v (.int .i64 1),.v (.int .i64 64),.v (.int .i64 1),.v (.int .i64 1)]
theorem abV:kD OQ=some acJ:=by kernel_rfl
def OT:List AV:=[.v (.int .i64 48)]
def acK:AV:= .tuple [.v (.int .i64 1),.v (.int .i64 2),.v (.int .i64 1),.v (.int .i64 64)]
theorem abW:kD OT=some acK:=by kernel_rfl
def OU:List AV:=[.v (.int .i64 49)]
def acL:AV:= .tuple [.v (.int .i64 3),.v (.int .i64 5),.v (.int .i64 1),.v (.int .i64 1)]
theorem abX:kD OU=some acL:=by kernel_rfl
def OV:List AV:=[.v (.int .i64 50)]
def acM:AV:= .tuple [.v (.int .i64 2),.v (.int .i64 2),.v (.int .i64 1),.v (.int .i64 1)]
theorem abY:kD OV=some acM:=by kernel_rfl
def OW:List AV:=[.v (.int .i64 51)]
def acN:AV:= .tuple [.v (.int .i64 2),.v (.int .i64 2),.v (.int .i64 1),.v (.int .i64 1)]
theorem abZ:kD OW=some acN:=by kernel_rfl
def OX:List AV:=[.v (.int .i64 52)]
def acO:AV:= .tuple [.v (.int .i64 3),.v (.int .i64 3),.v (.int .i64 1),.v (.int .i64 1)]
theorem ab1:kD OX=some acO:=by kernel_rfl
def OY:List AV:=[.v (.int .i64 53)]
def acP:AV:= .tuple [.v (.int .i64 2),.v (.int .i64 3),.v (.int .i64 1),.v (.int .i64 1)]
theorem ab2:kD OY=some acP:=by kernel_rfl
def O0:List AV:=[.v (.int .i64 54)]
def acQ:AV:= .tuple [.v (.int .i64 2),.v (.int .i64 2),.v (.int .i64 1),.v (.int .i64 1)]
theorem ab3:kD O0=some acQ:=by kernel_rfl
def OD:List AV:=[.v (.int .i64 55)]
def acA:AV:= .tuple [.v (.int .i64 2),.v (.int .i64 2),.v (.int .i64 1),.v (.int .i64 1)]
theorem abM:kD OD=some acA:=by kernel_rfl
def OE:List AV:=[.v (.int .i64 56)]
def acB:AV:= .tuple [.v (.int .i64 1),.v (.int .i64 2),.v (.int .i64 1),.v (.int .i64 1)]
theorem abN:kD OE=some acB:=by kernel_rfl
def OG:List AV:=[.v (.int .i64 57)]
def acC:AV:= .tuple [.v (.int .i64 2),.v (.int .i64 2),.v (.int .i64 1),.v (.int .i64 1)]
theorem abO:kD OG=some acC:=by kernel_rfl
def OH:List AV:=[.v (.int .i64 58)]
def acD:AV:= .tuple [.v (.int .i64 1),.v (.int .i64 1),.v (.int .i64 1),.v (.int .i64 1)]
theorem abP:kD OH=some acD:=by kernel_rfl
def OI:List AV:=[.v (.int .i64 59)]
def acE:AV:= .tuple [.v (.int .i64 1),.v (.int .i64 1),.v (.int .i64 1),.v (.int .i64 1)]
theorem abQ:kD OI=some acE:=by kernel_rfl
def OJ:List AV:=[.v (.int .i64 60)]
def acF:AV:= .tuple [.v (.int .i64 1),.v (.int .i64 1),.v (.int .i64 1),.v (.int .i64 1)]
theorem abR:kD OJ=some acF:=by kernel_rfl
def OL:List AV:=[.v (.int .i64 62)]
def acG:AV:= .tuple [.v (.int .i64 1),.v (.int .i64 1),.v (.int .i64 1),.v (.int .i64 1)]
theorem abS:kD OL=some acG:=by kernel_rfl
def OM:List AV:=[.v (.int .i64 63)]
def acH:AV:= .tuple [.v (.int .i64 1),.v (.int .i64 1),.v (.int .i64 1),.v (.int .i64 1)]
theorem abT:kD OM=some acH:=by kernel_rfl
def OO:List AV:=[.v (.int .i64 64)]
def acI:AV:= .tuple [.v (.int .i64 1),.v (.int .i64 1),.v (.int .i64 1),.v (.int .i64 1)]
theorem abU:kD OO=some acI:=by kernel_rfl
noncomputable def z87:List AV->Option AV:=λxs=>if bJ (bP 8) xs OB=true then some acy else if bJ (bP 8) xs OC=true then some acz else if bJ (bP 8) xs OQ=true then some acJ else if bJ (bP 8) xs OT=true then some acK else if bJ (bP 8) xs OU=true then some acL else if bJ (bP 8) xs OV=true then some acM else if bJ (bP 8) xs OW=true then some acN else if bJ (bP 8) xs OX=true then some acO else if bJ (bP 8) xs OY=true then some acP else if bJ (bP 8) xs O0=true then some acQ else if bJ (bP 8) xs OD=true then some acA else if bJ (bP 8) xs OE=true then some acB else if bJ (bP 8) xs OG=true then some acC else if bJ (bP 8) xs OH=true then some acD else if bJ (bP 8) xs OI=true then some acE else if bJ (bP 8) xs OJ=true then some acF else if bJ (bP 8) xs OL=true then some acG else if bJ (bP 8) xs OM=true then some acH else if bJ (bP 8) xs OO=true then some acI else kD xs
noncomputable def c29:aC:=bQ 87 z87 c28
theorem gJ(args:List AV)(r:AV)(h:kD args=some r):bH prog 87 args r:=by
  unfold kD at h
  exact bM mixed V6 iy i87 h
theorem V7:aK prog c29:=bU V6 fun args r h=>by
  unfold z87 at h
  by_cases h0:bJ (bP 8) args OB=true
  · rw[if_pos h0]at h;injection h with h;subst h;rw[gy (iJ 8) h0];exact gJ _ _ abK
  rw[if_neg h0]at h
  by_cases h1:bJ (bP 8) args OC=true
  · rw[if_pos h1]at h;injection h with h;subst h;rw[gy (iJ 8) h1];exact gJ _ _ abL
  rw[if_neg h1]at h
  by_cases h2:bJ (bP 8) args OQ=true
  · rw[if_pos h2]at h;injection h with h;subst h;rw[gy (iJ 8) h2];exact gJ _ _ abV
  rw[if_neg h2]at h
  by_cases h3:bJ (bP 8) args OT=true
  · rw[if_pos h3]at h;injection h with h;subst h;rw[gy (iJ 8) h3];exact gJ _ _ abW
  rw[if_neg h3]at h
  by_cases h4:bJ (bP 8) args OU=true
  · rw[if_pos h4]at h;injection h with h;subst h;rw[gy (iJ 8) h4];exact gJ _ _ abX
  rw[if_neg h4]at h
  by_cases h5:bJ (bP 8) args OV=true
  · rw[if_pos h5]at h;injection h with h;subst h;rw[gy (iJ 8) h5];exact gJ _ _ abY
  rw[if_neg h5]at h
  by_cases h6:bJ (bP 8) args OW=true
  · rw[if_pos h6]at h;injection h with h;subst h;rw[gy (iJ 8) h6];exact gJ _ _ abZ
  rw[if_neg h6]at h
  by_cases h7:bJ (bP 8) args OX=true
  · rw[if_pos h7]at h;injection h with h;subst h;rw[gy (iJ 8) h7];exact gJ _ _ ab1
  rw[if_neg h7]at h
  by_cases h8:bJ (bP 8) args OY=true
  · rw[if_pos h8]at h;injection h with h;subst h;rw[gy (iJ 8) h8];exact gJ _ _ ab2
  rw[if_neg h8]at h
  by_cases h9:bJ (bP 8) args O0=true
  · rw[if_pos h9]at h;injection h with h;subst h;rw[gy (iJ 8) h9];exact gJ _ _ ab3
  rw[if_neg h9]at h
  by_cases h10:bJ (bP 8) args OD=true
  · rw[if_pos h10]at h;injection h with h;subst h;rw[gy (iJ 8) h10];exact gJ _ _ abM
  rw[if_neg h10]at h
  by_cases h11:bJ (bP 8) args OE=true
  · rw[if_pos h11]at h;injection h with h;subst h;rw[gy (iJ 8) h11];exact gJ _ _ abN
  rw[if_neg h11]at h
  by_cases h12:bJ (bP 8) args OG=true
  · rw[if_pos h12]at h;injection h with h;subst h;rw[gy (iJ 8) h12];exact gJ _ _ abO
  rw[if_neg h12]at h
  by_cases h13:bJ (bP 8) args OH=true
  · rw[if_pos h13]at h;injection h with h;subst h;rw[gy (iJ 8) h13];exact gJ _ _ abP
  rw[if_neg h13]at h
  by_cases h14:bJ (bP 8) args OI=true
  · rw[if_pos h14]at h;injection h with h;subst h;rw[gy (iJ 8) h14];exact gJ _ _ abQ
  rw[if_neg h14]at h
  by_cases h15:bJ (bP 8) args OJ=true
  · rw[if_pos h15]at h;injection h with h;subst h;rw[gy (iJ 8) h15];exact gJ _ _ abR
  rw[if_neg h15]at h
  by_cases h16:bJ (bP 8) args OL=true
  · rw[if_pos h16]at h;injection h with h;subst h;rw[gy (iJ 8) h16];exact gJ _ _ abS
  rw[if_neg h16]at h
  by_cases h17:bJ (bP 8) args OM=true
  · rw[if_pos h17]at h;injection h with h;subst h;rw[gy (iJ 8) h17];exact gJ _ _ abT
  rw[if_neg h17]at h
  by_cases h18:bJ (bP 8) args OO=true
  · rw[if_pos h18]at h;injection h with h;subst h;rw[gy (iJ 8) h18];exact gJ _ _ abU
  rw[if_neg h18]at h
  exact gJ _ _ h
def Ig:TD:=zz [[0],[],[5,6,7,8],[],[10,11,12,13,14],[],[1,2,15]]
noncomputable def n104:aU:=⟨az Tryz.f104,[.cell 4 60],[60]⟩
theorem aqz:aN prog 104 Ig=some n104:=fA Tryz.func104
noncomputable def PT:aC:=bQ 104 (λxs=>bI prog inl c29 q1 100 Ig n104 xs) c29
theorem V8:aK prog PT:=bU V7 λargs r h=>bM mixed V7 iy aqz h
def JG:TD:=zz [[0,4],[],[1,2,5,6,7,8,9]]
noncomputable def n88:aU:=⟨az Tryz.f88,[.tmp 4],[4]⟩
theorem i88:aN prog 88 JG=some n88:=fA Tryz.func88
noncomputable def c31:aC:=bQ 88 (λxs=>bI prog inl PT q1 100 JG n88 xs) PT
theorem V9:aK prog c31:=bU V8 λargs r h=>bM mixed V8 iy i88 h
def Je:TD:=zz [[0,2],[1,49,50],[8,9,10,11,12,13,14,15],[],[4,5,6,16,17,18,19,20,21,22,23,24,25,26,27,28,29,30,31,32,33,34,35,36,37,38,39,40,41,42,43,44,45,46,47],[],[],[],[3],[],[],[],[52],[],[7,53,54,55],[],[],[],[57],[],[]]
noncomputable def n38:aU:=⟨az Tryz.f38,[.tmp 2],[4]⟩
theorem i38:aN prog 38 Je=some n38:=fA Tryz.func38
noncomputable def c32:aC:=bQ 38 (λxs=>bI prog inl c31 q1 100 Je n38 xs) c31
theorem We:aK prog c32:=bU V9 λargs r h=>bM mixed V9 iy i38 h
def Iy:TD:=[(0,[2]),(0,[3,4,13,18,31,36,45,55]),(0,[0]),(0,[]),(0,[5]),(0,[]),(0,[6]),(0,[]),(0,[7]),(1,[]),(0,[8]),(0,[]),(0,[9]),(0,[]),(0,[10]),(0,[]),(0,[11]),(0,[]),(0,[12]),(0,[]),(0,[]),(0,[]),(0,[14]),(0,[]),(0,[15]),(0,[]),(0,[16]),(1,[]),(0,[17]),(0,[]),(0,[]),(0,[]),(0,[19]),(0,[]),(0,[20]),(0,[]),(0,[21]),(1,[]),(0,[22]),(0,[]),(0,[23]),(0,[]),(0,[24]),(0,[]),(0,[25]),(0,[]),(0,[26]),(0,[]),(0,[27]),(0,[]),(0,[28]),(0,[]),(0,[29]),(0,[]),(0,[30]),(0,[]),(0,[]),(0,[]),(0,[32]),(0,[]),(0,[33]),(0,[]),(0,[]),(1,[]),(0,[35]),(0,[]),(0,[]),(0,[]),(0,[37]),(0,[]),(0,[38]),(0,[]),(0,[39]),(1,[]),(0,[40]),(0,[]),(0,[41]),(0,[]),(0,[42]),(0,[]),(0,[43]),(0,[]),(0,[44]),(0,[]),(0,[]),(0,[]),(0,[46]),(0,[]),(0,[47]),(0,[]),(0,[48]),(1,[]),(0,[49]),(0,[]),(0,[50]),(0,[]),(0,[51]),(0,[]),(0,[52]),(0,[]),(0,[53]),(0,[]),(0,[54]),(0,[]),(0,[]),(0,[]),(0,[56]),(0,[]),(0,[57]),(0,[]),(0,[]),(1,[]),(0,[59]),(0,[]),(0,[]),(0,[]),(0,[61]),(0,[]),(0,[]),(0,[]),(0,[])]
noncomputable def n177:aU:=⟨az Tryz.f177,[.tmp 2],[9]⟩
theorem aqH:aN prog 177 Iy=some n177:=fA Tryz.func177
noncomputable def PU:aC:=bQ 177 (λxs=>bI prog inl c32 q1 100 Iy n177 xs) c32
theorem Wh:aK prog PU:=bU We λargs r h=>bM mixed We iy aqH h
def Iz:TD:=zz [[0,6],[1,3,12],[8,9,10,11],[],[2],[],[14],[],[15,16,17,18,19,20],[],[22],[],[23,24],[],[26],[],[27,28],[],[30],[],[31,32],[],[34],[],[35,36,37,38,39],[],[41],[],[42,43,44,45,46,47,48],[],[7,49,50,51]]
noncomputable def n178:aU:=⟨az Tryz.f178,[.tmp 6],[4]⟩
theorem aqI:aN prog 178 Iz=some n178:=fA Tryz.func178
noncomputable def c34:aC:=bQ 178 (λxs=>bI prog inl PU q1 100 Iz n178 xs) PU
theorem Wi:aK prog c34:=bU Wh λargs r h=>bM mixed Wh iy aqI h
def JH:TD:=[(0,[0,2]),(0,[3,10,11]),(0,[5,6,7]),(0,[]),(0,[8,9]),(0,[]),(0,[]),(0,[]),(0,[13]),(0,[]),(24,[4,14,15,16,17,18,19,20,21,22,23,24,25,26,27,28,29,30,31,32,33,34,35,36]),(0,[]),(0,[]),(0,[]),(0,[38]),(0,[]),(0,[1,39,40,41,42,43,44,45,46,47,48,49,50,51,52,53])]
noncomputable def n89:aU:=⟨az Tryz.f89,[.tmp 2],[4]⟩
theorem i89:aN prog 89 JH=some n89:=fA Tryz.func89
noncomputable def PV:aC:=bQ 89 (λxs=>bI prog inl c34 q1 100 JH n89 xs) c34
theorem Wj:aK prog PV:=bU Wi λargs r h=>bM mixed Wi iy i89 h
def I4:TD:=zz [[4,5],[0,1],[7,8],[],[],[],[10,11,12,13,14,15,16],[],[17],[],[19,20,21,22,23,24,25,26],[],[27,28,29],[],[]]
noncomputable def n21:aU:=⟨az Tryz.f21,[.tmp 4,.tmp 5],[3,34]⟩
theorem i21:aN prog 21 I4=some n21:=fA Tryz.func21
noncomputable def PW:aC:=bQ 21 (λxs=>bI prog inl PV q1 100 I4 n21 xs) PV
theorem Wl:aK prog PW:=bU Wj λargs r h=>bM mixed Wj iy i21 h
def JJ:TD:=zz [[0,4],[],[1,2,5,6,7,8]]
noncomputable def n92:aU:=⟨az Tryz.f92,[.tmp 4],[22]⟩
theorem i92:aN prog 92 JJ=some n92:=fA Tryz.func92
noncomputable def c37:aC:=bQ 92 (λxs=>bI prog inl PW q1 100 JJ n92 xs) PW
theorem Wn:aK prog c37:=bU Wl λargs r h=>bM mixed Wl iy i92 h
def IA:TD:=zz [[0,2],[],[1,3,4,5]]
noncomputable def n179:aU:=⟨az Tryz.f179,[.tmp 2],[3]⟩
theorem aqJ:aN prog 179 IA=some n179:=fA Tryz.func179
noncomputable def PX:aC:=bQ 179 (λxs=>bI prog inl c37 q1 100 IA n179 xs) c37
theorem Wp:aK prog PX:=bU Wn λargs r h=>bM mixed Wn iy aqJ h
def IC:TD:=zz [[4,5],[1,20,21,22],[12,13,14,15,16],[],[],[],[18,19],[],[],[],[0],[],[],[],[24,25],[],[9,26,27,28,29,30,31],[],[32],[],[34],[],[11,35,36,37,38,39,40,41],[],[10,42,43,44],[],[45],[],[7],[],[],[],[6,47]]
noncomputable def n180:aU:=⟨az Tryz.f180,[.tmp 4,.tmp 5],[26,34]⟩
theorem aqK:aN prog 180 IC=some n180:=fA Tryz.func180
noncomputable def PY:aC:=bQ 180 (λxs=>bI prog inl PX q1 100 IC n180 xs) PX
theorem Wq:aK prog PY:=bU Wp λargs r h=>bM mixed Wp iy aqK h
def JI:TD:=[(0,[0,2]),(0,[1,3,4,17,58,99,131,164]),(5,[12,13,14,15]),(0,[]),(0,[16]),(0,[]),(0,[19]),(0,[]),(0,[20,21,22,23,24,25,26,27]),(0,[]),(0,[29]),(0,[]),(0,[30,31,32,33]),(0,[]),(0,[35]),(0,[]),(0,[36,37,38,39,40,41,42,43,44,45,46,47,48,49]),(0,[]),(0,[5,50,51,52,53,54,55,56,57]),(0,[]),(0,[59]),(0,[]),(0,[60]),(0,[]),(0,[61,62,63,64,65,66,67,68]),(0,[]),(0,[70]),(0,[]),(0,[71,72,73,74,75,76,77]),(0,[]),(0,[6,7,78,79,80,81,82,83,84,85,86,87,88,89,90,91,92,93,94,95,96,97,98]),(0,[]),(0,[100]),(0,[]),(0,[101]),(0,[]),(0,[102]),(0,[]),(0,[103]),(0,[]),(0,[104]),(0,[]),(0,[105]),(0,[]),(0,[106]),(0,[]),(0,[107]),(0,[]),(0,[108]),(0,[]),(0,[8,109,110,111,112,113,114,115]),(0,[]),(0,[9,116,117]),(0,[]),(0,[119]),(0,[]),(0,[120,121,122,123,124,125,126,127,128,129,130]),(0,[]),(0,[132]),(0,[]),(0,[133]),(0,[]),(0,[134]),(0,[]),(0,[135]),(0,[]),(0,[10,136,137,138,139,140,141,142]),(0,[]),(0,[11,143,144]),(0,[]),(0,[146]),(0,[]),(0,[147,148,149,150,151,152,153,154,155,156,157,158,159,160,161,162,163]),(0,[]),(0,[165]),(0,[]),(0,[166]),(0,[]),(0,[167,168,169,170,171,172,173,174]),(0,[]),(0,[]),(0,[]),(0,[]),(0,[]),(0,[]),(0,[]),(0,[]),(0,[]),(0,[]),(0,[]),(0,[]),(0,[]),(0,[]),(0,[]),(0,[]),(0,[]),(0,[]),(0,[]),(0,[]),(0,[]),(0,[]),(0,[]),(0,[]),(0,[]),(0,[]),(0,[]),(0,[]),(0,[]),(0,[]),(0,[]),(0,[]),(0,[]),(0,[]),(0,[]),(0,[]),(0,[]),(0,[]),(1,[]),(0,[]),(0,[]),(0,[]),(0,[]),(0,[]),(0,[]),(0,[]),(0,[]),(0,[]),(0,[]),(0,[]),(0,[]),(0,[]),(0,[]),(0,[]),(0,[]),(0,[]),(0,[]),(0,[]),(0,[]),(0,[]),(0,[]),(0,[]),(0,[]),(0,[]),(0,[]),(0,[]),(0,[]),(0,[]),(0,[]),(0,[]),(0,[]),(0,[]),(0,[]),(0,[]),(0,[]),(0,[]),(0,[]),(0,[]),(0,[]),(0,[]),(0,[]),(0,[]),(0,[]),(0,[]),(0,[]),(0,[]),(0,[]),(0,[]),(0,[]),(0,[]),(0,[]),(0,[]),(0,[]),(0,[]),(0,[]),(0,[]),(0,[]),(0,[]),(0,[]),(0,[]),(0,[]),(0,[]),(0,[]),(0,[]),(0,[]),(0,[]),(0,[]),(0,[]),(0,[]),(0,[]),(0,[]),(0,[]),(0,[]),(0,[]),(0,[]),(0,[]),(0,[]),(0,[]),(0,[]),(0,[]),(1,[]),(0,[]),(0,[]),(0,[]),(0,[]),(0,[]),(0,[]),(0,[]),(0,[]),(0,[]),(0,[]),(0,[]),(0,[]),(0,[]),(0,[]),(0,[]),(0,[]),(0,[]),(0,[]),(0,[]),(0,[]),(0,[]),(0,[]),(0,[]),(0,[]),(0,[]),(0,[]),(0,[]),(0,[]),(0,[]),(0,[]),(0,[]),(0,[]),(0,[]),(0,[]),(0,[]),(0,[]),(0,[]),(0,[]),(0,[]),(0,[]),(0,[]),(0,[]),(0,[]),(0,[]),(0,[]),(0,[]),(0,[]),(0,[]),(0,[]),(0,[]),(0,[]),(0,[]),(0,[]),(0,[]),(0,[]),(0,[]),(0,[]),(0,[]),(0,[]),(0,[]),(0,[]),(0,[]),(0,[]),(1,[]),(0,[]),(0,[]),(0,[]),(0,[]),(0,[]),(0,[]),(0,[]),(0,[]),(0,[]),(0,[]),(0,[]),(0,[]),(0,[]),(0,[]),(0,[]),(0,[]),(0,[]),(0,[]),(0,[]),(0,[]),(0,[]),(0,[]),(0,[]),(0,[]),(0,[]),(0,[]),(0,[]),(0,[]),(0,[]),(0,[]),(0,[]),(0,[]),(0,[]),(0,[]),(0,[]),(0,[]),(0,[]),(0,[]),(0,[]),(0,[]),(0,[]),(0,[]),(0,[]),(0,[]),(0,[]),(0,[]),(0,[]),(0,[]),(0,[]),(0,[]),(0,[]),(0,[]),(0,[]),(0,[]),(0,[]),(0,[]),(0,[]),(0,[]),(0,[]),(0,[]),(0,[]),(0,[]),(0,[]),(0,[]),(0,[]),(1,[])]
noncomputable def n90:aU:=⟨az Tryz.f90,[.tmp 2],[4]⟩
theorem i90:aN prog 90 JI=some n90:=fA Tryz.func90
noncomputable def c40:aC:=bQ 90 (λxs=>bI prog inl PY q1 100 JI n90 xs) PY
theorem Ws:aK prog c40:=bU Wq λargs r h=>bM mixed Wq iy i90 h
def IE:TD:=[(0,[0,2]),(0,[8,13]),(0,[]),(0,[1,4,6]),(0,[7]),(0,[]),(0,[]),(0,[]),(0,[10]),(0,[]),(0,[]),(0,[]),(0,[12]),(0,[]),(0,[]),(0,[]),(0,[14]),(0,[]),(0,[15]),(0,[]),(0,[16]),(0,[]),(0,[17]),(0,[]),(0,[18]),(0,[]),(0,[19]),(1,[]),(0,[20]),(0,[]),(0,[21]),(0,[]),(0,[8000005]),(0,[]),(0,[3,22]),(0,[]),(0,[23,24]),(0,[]),(0,[26,27]),(0,[]),(0,[28,29]),(0,[]),(0,[31,32,33,34,35,36]),(0,[]),(0,[5,37])]
noncomputable def n184:aU:=⟨az Tryz.f184,[.tmp 2],[50]⟩
theorem aqL:aN prog 184 IE=some n184:=fA Tryz.func184
noncomputable def PZ:aC:=bQ 184 (λxs=>bI prog inl c40 q1 100 IE n184 xs) c40
theorem Wu:aK prog PZ:=bU Ws λargs r h=>bM mixed Ws iy aqL h
def IQ:TD:=[(0,[4]),(0,[0,1,12,13]),(0,[6,7,8,9]),(0,[]),(0,[]),(0,[]),(0,[11]),(0,[]),(0,[]),(0,[]),(0,[15]),(0,[]),(9,[5,16,17,18,19,20,21,22,23]),(0,[]),(0,[]),(0,[]),(0,[25]),(0,[]),(0,[])]
noncomputable def n193:aU:=⟨az Tryz.f193,[.tmp 4],[4]⟩
theorem i193:aN prog 193 IQ=some n193:=fA Tryz.func193
noncomputable def P5:aC:=bQ 193 (λxs=>bI prog inl PZ q1 100 IQ n193 xs) PZ
theorem Wv:aK prog P5:=bU Wu λargs r h=>bM mixed Wu iy i193 h
def II:TD:=zz [[0,2],[],[1,3,4,5,6,7,8,9,10,11,12,13,14,15,16,17,18,19,20,21,22,23,24,25,26]]
noncomputable def n187:aU:=⟨az Tryz.f187,[.tmp 2],[4]⟩
theorem aqN:aN prog 187 II=some n187:=fA Tryz.func187
noncomputable def P6:aC:=bQ 187 (λxs=>bI prog inl P5 q1 100 II n187 xs) P5
theorem Wx:aK prog P6:=bU Wv λargs r h=>bM mixed Wv iy aqN h
def IG:TD:=zz [[0,2],[],[1,3,4,5]]
noncomputable def n186:aU:=⟨az Tryz.f186,[.tmp 2],[4]⟩
theorem aqM:aN prog 186 IG=some n186:=fA Tryz.func186
noncomputable def P7:aC:=bQ 186 (λxs=>bI prog inl P6 q1 100 IG n186 xs) P6
theorem Wy:aK prog P7:=bU Wx λargs r h=>bM mixed Wx iy aqM h
def IK:TD:=zz [[0,2],[],[1,3,4,5,6]]
noncomputable def n188:aU:=⟨az Tryz.f188,[.tmp 2],[4]⟩
theorem aqO:aN prog 188 IK=some n188:=fA Tryz.func188
noncomputable def P8:aC:=bQ 188 (λxs=>bI prog inl P7 q1 100 IK n188 xs) P7
theorem WA:aK prog P8:=bU Wy λargs r h=>bM mixed Wy iy aqO h
def IP:TD:=zz [[2],[],[0,3,4]]
noncomputable def n191:aU:=⟨az Tryz.f191,[.tmp 2],[4]⟩
theorem aqQ:aN prog 191 IP=some n191:=fA Tryz.func191
noncomputable def c46:aC:=bQ 191 (λxs=>bI prog inl P8 q1 100 IP n191 xs) P8
theorem WB:aK prog c46:=bU WA λargs r h=>bM mixed WA iy aqQ h
def yN:TD:=zz [[4],[0,1,7,8],[6],[5],[],[],[10],[],[11,12,13,14,15],[],[17],[],[18],[],[]]
noncomputable def n240:aU:=⟨az Tryz.f240,[.tmp 4],[3]⟩
theorem SL:aN prog 240 yN=some n240:=fA Tryz.func240
noncomputable def P9:aC:=bQ 240 (λxs=>bI prog inl c46 q1 100 yN n240 xs) c46
theorem WC:aK prog P9:=bU WB λargs r h=>bM mixed WB iy SL h
def yL:TD:=zz [[4],[],[0,1,5,6,7,8]]
noncomputable def n190:aU:=⟨az Tryz.f190,[.tmp 4],[4]⟩
theorem SI:aN prog 190 yL=some n190:=fA Tryz.func190
noncomputable def Qa:aC:=bQ 190 (λxs=>bI prog inl P9 q1 100 yL n190 xs) P9
theorem WE:aK prog Qa:=bU WC λargs r h=>bM mixed WC iy SI h
def IL:TD:=zz [[0,2],[],[1,3,4,5,6]]
noncomputable def n189:aU:=⟨az Tryz.f189,[.tmp 2],[4]⟩
theorem aqP:aN prog 189 IL=some n189:=fA Tryz.func189
noncomputable def c49:aC:=bQ 189 (λxs=>bI prog inl Qa q1 100 IL n189 xs) Qa
theorem WF:aK prog c49:=bU WE λargs r h=>bM mixed WE iy aqP h
def yM:TD:=zz [[4],[0,1,7,8],[6],[5],[],[],[10],[],[11,12,13,14,15],[],[17],[],[18],[],[]]
noncomputable def n239:aU:=⟨az Tryz.f239,[.tmp 4],[3]⟩
theorem SK:aN prog 239 yM=some n239:=fA Tryz.func239
noncomputable def uT:aC:=bQ 239 (λxs=>bI prog inl c49 q1 100 yM n239 xs) c49
theorem WG:aK prog uT:=bU WF λargs r h=>bM mixed WF iy SK h
def yK:TD:=zz [[4],[],[0,1,5,6,7,8]]
noncomputable def n185:aU:=⟨az Tryz.f185,[.tmp 4],[4]⟩
theorem SH:aN prog 185 yK=some n185:=fA Tryz.func185
noncomputable def c51:aC:=bQ 185 (λxs=>bI prog inl uT q1 100 yK n185 xs) uT
theorem WH:aK prog c51:=bU WG λargs r h=>bM mixed WG iy SH h
def yT:TD:=zz [[0,2],[1,3],[4,5],[],[7,8],[],[],[],[10,11],[],[],[],[13,14,15,16,17,18,19],[],[],[],[]]
noncomputable def n91:aU:=⟨az Tryz.f91,[.tmp 2],[34]⟩
theorem i91:aN prog 91 yT=some n91:=fA Tryz.func91
noncomputable def Qb:aC:=bQ 91 (λxs=>bI prog inl c51 q1 100 yT n91 xs) c51
theorem WI:aK prog Qb:=bU WH λargs r h=>bM mixed WH iy i91 h
def Jf:TD:=zz [[0,2],[8,9,10],[7],[],[],[],[12,13,14],[],[4,5,15,16,17,18,19,20],[],[3,6,21,22,23,24,25,26],[],[],[],[28],[],[30,31,32],[],[],[],[34,35,36],[],[],[],[1,37,38]]
noncomputable def n39:aU:=⟨az Tryz.f39,[.tmp 2],[34]⟩
theorem i39:aN prog 39 Jf=some n39:=fA Tryz.func39
noncomputable def c53:aC:=bQ 39 (λxs=>bI prog inl Qb q1 100 Jf n39 xs) Qb
theorem WJ:aK prog c53:=bU WI λargs r h=>bM mixed WI iy i39 h
def Ie:TD:=zz [[2,3],[],[0,4,5]]
noncomputable def n103:aU:=⟨az Tryz.f103,[.tmp 2,.tmp 3],[72,34]⟩
theorem aqy:aN prog 103 Ie=some n103:=fA Tryz.func103
noncomputable def G7:aC:=bQ 103 (λxs=>bI prog inl c53 q1 100 Ie n103 xs) c53
theorem Qc:aK prog G7:=bU WJ λargs r h=>bM mixed WJ iy aqy h
def qV:TD:=zz [[2],[],[3],[],[],[],[0,5,6,7]]
noncomputable def n42:aU:=⟨az Tryz.f42,[.tmp 2],[22]⟩
theorem i42:aN prog 42 qV=some n42:=fA Tryz.func42
def z42(k:List AV→Option AV):List AV→Option AV
  |[.arr 0 []]=>some (.fresh 1 0 [])
  |xs=>k xs
noncomputable def G8:aC:=bQ 42 (z42 λxs=>bI prog inl G7 q1 100 qV n42 xs) G7
theorem y42(a:Option Addr)(c:Nat):bI prog inl G7 q1 100 qV n42 [.v (.slice a 0 c)]=some (.fresh 1 0 []):=by cases a <;> kernel_rfl
theorem Qd:aK prog G8:=bU Qc fun args r h=>by
  unfold z42 at h
  split at h
  · injection h with h;subst h
    exact bH.gB λa c=>bM mixed Qc iy i42 (y42 a c)
  · exact bM mixed Qc iy i42 h
def wP:TD:=[(0,[4,5,6]),(0,[0,2,3]),(0,[7,8]),(0,[]),(0,[10,11,12,13]),(0,[]),(20461022922632640854861491178342245317382250595468,[14,15,16,17,18,19,20,21,22,23,24,25,26,27])]
noncomputable def n108:aU:=⟨az Tryz.f108,[],[]⟩
theorem Lc:aN prog 108 wP=some n108:=fA Tryz.func108
noncomputable def q2:bz:=iE prog inl G8 q1 100 108 wP n108 q1
theorem zK:eH prog q2:=je mixed Qd iy Lc iy
def I7:TD:=zz [[0,4],[16,17,18],[1000005],[],[8,9,10],[],[],[],[1,2,12,13,14,15],[],[],[],[20,21],[],[7,22,23,24,25],[],[26],[],[5,27]]
noncomputable def n241:aU:=⟨az Tryz.f241,[.tmp 4],[22]⟩
theorem aqX:aN prog 241 I7=some n241:=fA Tryz.func241
noncomputable def AP:aC:=bQ 241 (λxs=>bI prog inl G8 q2 100 I7 n241 xs) G8
theorem WL:aK prog AP:=bU Qd λargs r h=>bM mixed Qd zK aqX h
def IU:TD:=[(0,[0,2]),(0,[]),(11,[1,4,5,6,7,8,9,10,11,12,13]),(0,[]),(0,[3,14])]
noncomputable def n198:aU:=⟨az Tryz.f198,[.tmp 2],[3]⟩
theorem i198:aN prog 198 IU=some n198:=fA Tryz.func198
noncomputable def qp:aC:=bQ 198 (λxs=>bI prog inl AP q2 100 IU n198 xs) AP
theorem WM:aK prog qp:=bU WL λargs r h=>bM mixed WL zK i198 h
def I8:TD:=zz [[1,4],[],[0,3,5,6,7]]
noncomputable def n242:aU:=⟨az Tryz.f242,[.tmp 4],[4]⟩
theorem aqY:aN prog 242 I8=some n242:=fA Tryz.func242
noncomputable def Qe:aC:=bQ 242 (λxs=>bI prog inl qp q2 100 I8 n242 xs) qp
theorem WN:aK prog Qe:=bU WM λargs r h=>bM mixed WM zK aqY h
def I9:TD:=zz [[8],[],[9],[],[11,12,13],[],[14],[],[16,17,18],[],[19,20,21],[],[22],[],[24,25,26,27,28,29,30,31,32,33],[],[34,35,36,37,38,39],[],[40,41,42,43,44,45,46,47],[],[0,1,2,3,48,49,50,51,52,53,54,55,56]]
noncomputable def n243:aU:=⟨az Tryz.f243,[.tmp 8],[3]⟩
theorem aqZ:aN prog 243 I9=some n243:=fA Tryz.func243
noncomputable def c59:aC:=bQ 243 (λxs=>bI prog inl Qe q2 100 I9 n243 xs) Qe
theorem WO:aK prog c59:=bU WN λargs r h=>bM mixed WN zK aqZ h
def IR:TD:=[(0,[0,2,3]),(0,[1,28,29]),(0,[16,17,18]),(0,[]),(6,[19,20,21,22]),(0,[5,6,8,83,84,85]),(6,[23,24,25,26]),(0,[]),(0,[27]),(0,[]),(0,[]),(0,[]),(0,[31]),(0,[]),(0,[32,33]),(0,[]),(0,[35,36,37,38]),(0,[]),(0,[9,39,40]),(0,[]),(0,[42,43,44]),(0,[]),(0,[45]),(0,[]),(0,[10,46,47,48,49,50,51,52]),(0,[]),(0,[11,53,54,55,56,57,58,59,60,61,62,63,64,65,66,67,68,69,70,71,72,73,74,75,76,77,78]),(0,[]),(0,[80,81,82]),(0,[]),(0,[7]),(0,[]),(0,[]),(0,[]),(0,[87,88,89]),(0,[]),(0,[13,15,90,91,92,93,94,95,96]),(0,[]),(20,[12,14,97,98,99,100,101,102,103,104,105,106,107,108,109,110,111,112,113,114,115,116]),(0,[]),(0,[117]),(0,[]),(0,[4,118,119,120,121])]
noncomputable def n197:aU:=⟨az Tryz.f197,[.tmp 2,.tmp 3],[72,34]⟩
theorem aqR:aN prog 197 IR=some n197:=fA Tryz.func197
noncomputable def G9:aC:=bQ 197 (λxs=>bI prog inl c59 q2 100 IR n197 xs) c59
theorem Qg:aK prog G9:=bU WO λargs r h=>bM mixed WO zK aqR h
def yO:TD:=zz [[4],[],[5],[],[7],[],[8,9,10,11,12,13,14],[],[15],[],[17,18,19,20,21,22,23,24,25],[],[0,1,26,1000004]]
noncomputable def n244:aU:=⟨az Tryz.f244,[.tmp 4],[22]⟩
theorem SN:aN prog 244 yO=some n244:=fA Tryz.func244
noncomputable def q3:bz:=iE prog inl G9 q2 100 244 yO n244 q2
theorem ny:eH prog q3:=je mixed Qg zK SN zK
def IV:TD:=zz [[2],[9,10,11],[],[],[],[25,26,27],[],[],[13,14],[],[5,15,16,17,18],[],[19],[],[21],[],[22],[],[3,23,24,3000000006],[],[0],[],[],[],[29,30],[],[8,31,32,33],[],[34],[],[6,35]]
noncomputable def n199:aU:=⟨az Tryz.f199,[.tmp 2],[22]⟩
theorem aqS:aN prog 199 IV=some n199:=fA Tryz.func199
noncomputable def Qh:aC:=bQ 199 (λxs=>(bI prog inl G9 q3 100 IV n199 xs).bind (fP 4)) G9
theorem WP:aK prog Qh:=bU Qg fun args r h=>by
  obtain⟨r0,h0,h1⟩:=aA.1 h
  exact(bM mixed Qg ny aqS h0).Nh h1
def IX:TD:=[(0,[0,4,5]),(0,[2,6,7,22,23]),(6,[9,10,11,12]),(0,[]),(0,[13,14,15,16]),(0,[]),(0,[18,19,20]),(0,[]),(0,[21]),(0,[]),(0,[]),(0,[]),(0,[25]),(0,[]),(15,[8,26,27,28,29,30,31,32,33,34,35,36,37,38,39]),(0,[]),(0,[41,42,43]),(0,[]),(0,[44]),(0,[]),(0,[1,45,46,47,48])]
noncomputable def n200:aU:=⟨az Tryz.f200,[.tmp 4,.tmp 5],[72,34]⟩
theorem aqT:aN prog 200 IX=some n200:=fA Tryz.func200
noncomputable def Qi:aC:=bQ 200 (λxs=>bI prog inl Qh q3 100 IX n200 xs) Qh
theorem WQ:aK prog Qi:=bU WP λargs r h=>bM mixed WP ny aqT h
def IY:TD:=[(0,[0,2,3]),(0,[1,6,35,36,37]),(7,[10,11,12,13,14]),(0,[7,8,9]),(0,[15,16]),(0,[9,52]),(0,[17,18,19,20,21,22,23,24,25,26,27,28,29,30]),(0,[]),(0,[32,33,34]),(0,[]),(0,[5]),(0,[]),(0,[]),(0,[]),(0,[39,40,41]),(0,[]),(8,[42,43,44,45,46,47,48]),(0,[]),(0,[50,51]),(0,[]),(0,[53,54,55,56,57,58,59,60,61]),(0,[]),(0,[62,63,64,65,66,67,68,69]),(0,[]),(0,[70,71,72]),(0,[]),(0,[7,8,73,74,75,76,77,78,79,80,81]),(0,[]),(0,[82]),(0,[]),(0,[4,83,84,85,86]),(0,[]),(0,[]),(0,[]),(0,[]),(0,[]),(0,[]),(0,[]),(0,[]),(0,[]),(0,[]),(0,[]),(0,[]),(0,[]),(0,[]),(0,[]),(0,[]),(0,[]),(0,[]),(0,[]),(0,[]),(0,[]),(0,[]),(0,[]),(0,[]),(0,[]),(0,[]),(0,[]),(0,[]),(0,[]),(0,[]),(0,[]),(0,[]),(0,[]),(0,[]),(0,[]),(0,[]),(0,[]),(0,[]),(0,[]),(0,[]),(0,[]),(0,[]),(0,[]),(0,[]),(0,[]),(0,[]),(0,[]),(0,[]),(0,[]),(0,[]),(0,[]),(0,[]),(0,[]),(0,[]),(0,[]),(0,[]),(0,[]),(0,[]),(0,[]),(0,[]),(0,[]),(0,[]),(0,[]),(0,[]),(0,[]),(0,[]),(0,[]),(0,[]),(0,[]),(0,[]),(0,[]),(0,[]),(0,[]),(0,[]),(1,[])]
noncomputable def n201:aU:=⟨az Tryz.f201,[.tmp 2,.tmp 3],[72,34]⟩
theorem i201:aN prog 201 IY=some n201:=fA Tryz.func201
noncomputable def Qj:aC:=bQ 201 (λxs=>bI prog inl Qi q3 100 IY n201 xs) Qi
theorem WR:aK prog Qj:=bU WQ λargs r h=>bM mixed WQ ny i201 h
def JK:TD:=[(0,[0,2,3]),(0,[4,12,115,122]),(0,[9,10]),(0,[21,22,23]),(0,[11]),(0,[6,7]),(0,[14]),(0,[]),(0,[15,16]),(0,[]),(0,[17,18]),(0,[]),(0,[19,20]),(0,[]),(0,[]),(0,[]),(0,[25,26,27]),(0,[]),(0,[28,29]),(0,[]),(0,[31,32,33,34,35,36,37]),(0,[]),(0,[38]),(0,[]),(0,[5,39,40,41,42]),(0,[]),(0,[44]),(0,[]),(0,[45,46,47,48]),(0,[]),(0,[50]),(0,[]),(0,[51,52,53,54]),(0,[]),(0,[56]),(0,[]),(0,[57,58,59,60]),(0,[]),(0,[62]),(0,[]),(0,[63,64,65,66]),(0,[]),(0,[68]),(0,[]),(0,[69,70]),(0,[]),(16,[8,71,72,73,74,75,76,77,78,79,80,81,82,83,84]),(0,[]),(0,[86]),(0,[]),(8,[87,88,89,90,91,92]),(0,[]),(0,[94]),(0,[]),(6,[95,96,97,98,99]),(0,[]),(0,[101,102,103]),(0,[]),(0,[104,105,106,107,108]),(0,[]),(0,[110]),(0,[]),(0,[111,112,113,114]),(0,[]),(0,[116]),(0,[]),(0,[117]),(0,[]),(0,[118,119,120,121]),(0,[]),(0,[123]),(0,[]),(0,[124]),(0,[]),(0,[125,126,127,128]),(0,[]),(0,[1,129,130,131,132]),(0,[]),(0,[]),(0,[]),(0,[]),(0,[]),(0,[]),(0,[]),(0,[]),(0,[]),(0,[]),(0,[]),(0,[]),(0,[]),(0,[]),(0,[]),(0,[]),(0,[]),(0,[]),(0,[]),(0,[]),(0,[]),(0,[]),(0,[]),(0,[]),(0,[]),(0,[]),(0,[]),(0,[]),(0,[]),(0,[]),(0,[]),(0,[]),(0,[]),(0,[]),(0,[]),(0,[]),(0,[]),(0,[]),(0,[]),(0,[]),(0,[]),(0,[]),(0,[]),(0,[]),(0,[]),(0,[]),(0,[]),(0,[]),(0,[]),(0,[]),(0,[]),(0,[]),(0,[]),(0,[]),(0,[]),(0,[]),(0,[]),(0,[]),(0,[]),(0,[]),(0,[]),(0,[]),(0,[]),(0,[]),(0,[]),(0,[]),(0,[]),(0,[]),(0,[]),(0,[]),(0,[]),(0,[]),(0,[]),(0,[]),(0,[]),(0,[]),(0,[]),(0,[]),(0,[]),(0,[]),(0,[]),(0,[]),(0,[]),(0,[]),(0,[]),(0,[]),(0,[]),(0,[]),(0,[]),(0,[]),(0,[]),(0,[]),(0,[]),(0,[]),(0,[]),(0,[]),(0,[]),(0,[]),(0,[]),(0,[]),(0,[]),(0,[]),(0,[]),(0,[]),(0,[]),(0,[]),(0,[]),(0,[]),(0,[]),(0,[]),(0,[]),(0,[]),(0,[]),(0,[]),(0,[]),(0,[]),(0,[]),(0,[]),(0,[]),(0,[]),(0,[]),(0,[]),(0,[]),(0,[]),(0,[]),(0,[]),(0,[]),(0,[]),(0,[]),(0,[]),(0,[]),(0,[]),(0,[]),(0,[]),(0,[]),(0,[]),(0,[]),(0,[]),(0,[]),(0,[]),(0,[]),(0,[]),(0,[]),(0,[]),(0,[]),(0,[]),(0,[]),(0,[]),(0,[]),(0,[]),(0,[]),(0,[]),(0,[]),(0,[]),(1,[]),(0,[]),(0,[]),(0,[]),(0,[]),(0,[]),(0,[]),(0,[]),(0,[]),(0,[]),(0,[]),(0,[]),(0,[]),(0,[]),(1,[])]
noncomputable def n96:aU:=⟨az Tryz.f96,[.tmp 2,.tmp 3],[72,34]⟩
theorem i96:aN prog 96 JK=some n96:=fA Tryz.func96
noncomputable def c64:aC:=bQ 96 (λxs=>bI prog aaI Qj q3 100 JK n96 xs) Qj
theorem WS:aK prog c64:=bU WR λargs r h=>bM mixed WR ny i96 h
def Jh:TD:=[(0,[0,2,3]),(0,[1,5,9,10,54,78,108,115]),(0,[6,7]),(0,[]),(0,[8]),(0,[]),(0,[11]),(0,[]),(0,[12]),(0,[]),(0,[13]),(0,[]),(0,[14]),(0,[]),(0,[15]),(0,[]),(0,[16]),(0,[]),(0,[17]),(0,[]),(0,[18]),(1,[]),(0,[19]),(0,[]),(0,[20]),(0,[]),(0,[21]),(0,[]),(0,[22]),(0,[]),(0,[23]),(0,[]),(0,[24]),(0,[]),(0,[25]),(0,[]),(0,[26]),(0,[]),(0,[27]),(0,[]),(0,[28,29,30,31]),(0,[]),(0,[33]),(0,[]),(0,[34,35,36,37]),(0,[]),(0,[38]),(0,[]),(0,[40]),(0,[]),(0,[42]),(0,[]),(8,[43,44,45,46,47,48,49]),(0,[]),(0,[51,52,53]),(0,[]),(0,[55]),(0,[]),(0,[56]),(0,[]),(0,[57]),(0,[]),(0,[58]),(0,[]),(0,[59]),(0,[]),(0,[60]),(0,[]),(0,[61]),(0,[]),(0,[62]),(0,[]),(0,[63]),(0,[]),(0,[64]),(0,[]),(0,[65]),(0,[]),(0,[66]),(0,[]),(0,[67]),(0,[]),(0,[68]),(0,[]),(0,[69]),(0,[]),(0,[70]),(0,[]),(0,[71]),(0,[]),(0,[72]),(0,[]),(0,[73]),(0,[]),(0,[74,75,76,77]),(0,[]),(0,[79]),(0,[]),(0,[80]),(0,[]),(0,[81]),(0,[]),(0,[82]),(0,[]),(0,[83]),(0,[]),(0,[84]),(0,[]),(0,[85]),(1,[]),(0,[86,87,88,89]),(0,[]),(0,[91]),(0,[]),(0,[92,93,94,95]),(0,[]),(0,[97]),(0,[]),(0,[98,99,100,101]),(0,[]),(0,[103]),(0,[]),(0,[104,105,106,107]),(0,[]),(0,[109]),(0,[]),(0,[110]),(0,[]),(0,[111,112,113,114]),(0,[]),(0,[116]),(0,[]),(0,[117]),(0,[]),(0,[118]),(0,[]),(0,[119,120,121,122]),(0,[]),(0,[4,123,124,125,126]),(0,[]),(0,[]),(0,[]),(0,[]),(0,[]),(0,[]),(0,[]),(0,[]),(0,[]),(0,[]),(0,[]),(0,[]),(0,[]),(0,[]),(0,[]),(0,[]),(0,[]),(0,[]),(1,[]),(0,[]),(0,[]),(0,[]),(0,[]),(0,[]),(0,[]),(0,[]),(0,[]),(0,[]),(0,[]),(0,[]),(0,[]),(0,[]),(0,[]),(0,[]),(0,[]),(0,[]),(0,[]),(0,[]),(0,[]),(0,[]),(0,[]),(0,[]),(0,[]),(0,[]),(0,[]),(0,[]),(0,[]),(0,[]),(0,[]),(0,[]),(0,[]),(0,[]),(0,[]),(0,[]),(0,[]),(0,[]),(0,[]),(0,[]),(0,[]),(0,[]),(0,[]),(0,[]),(0,[]),(0,[]),(0,[]),(0,[]),(0,[]),(0,[]),(0,[]),(0,[]),(0,[]),(0,[]),(0,[]),(0,[]),(0,[]),(0,[]),(0,[]),(0,[]),(1,[]),(0,[]),(0,[]),(0,[]),(0,[]),(0,[]),(0,[]),(0,[]),(0,[]),(0,[]),(0,[]),(0,[]),(0,[]),(0,[]),(1,[])]
noncomputable def n40:aU:=⟨az Tryz.f40,[.tmp 2,.tmp 3],[72,34]⟩
theorem i40:aN prog 40 Jh=some n40:=fA Tryz.func40
noncomputable def Qk:aC:=bQ 40 (λxs=>bI prog inl c64 q3 100 Jh n40 xs) c64
theorem WT:aK prog Qk:=bU WS λargs r h=>bM mixed WS ny i40 h
def Ji:TD:=[(0,[0,2]),(0,[4,5,17]),(0,[3]),(0,[]),(0,[6]),(0,[]),(0,[7]),(0,[]),(0,[8]),(0,[]),(0,[9]),(1,[]),(0,[10]),(0,[]),(0,[11]),(0,[]),(0,[12]),(0,[]),(0,[13]),(0,[]),(0,[14]),(0,[]),(0,[15]),(0,[]),(0,[16]),(0,[]),(0,[]),(0,[]),(0,[18]),(0,[]),(0,[19]),(0,[]),(0,[20]),(0,[]),(0,[21]),(1,[]),(0,[]),(0,[]),(0,[23]),(0,[]),(0,[24,25,26]),(0,[]),(0,[28]),(0,[]),(0,[29,30,31,32]),(0,[]),(0,[34]),(0,[]),(0,[35,36,37]),(0,[]),(0,[1,38,39,40])]
noncomputable def n41:aU:=⟨az Tryz.f41,[.tmp 2],[3]⟩
theorem i41:aN prog 41 Ji=some n41:=fA Tryz.func41
noncomputable def Ql:aC:=bQ 41 (λxs=>bI prog inl Qk q3 100 Ji n41 xs) Qk
theorem WU:aK prog Ql:=bU WT λargs r h=>bM mixed WT ny i41 h
def IM:TD:=zz [[1,8,9],[10,40,41,42],[0,2,3,5,19,20,21,22,23],[],[24,25],[],[],[],[27,28],[],[29],[],[31],[],[11,32,33,34,35,36],[],[37],[],[39],[],[13,8000014],[],[12],[],[],[],[44,45],[],[17,46,47,48,49,50],[],[18,51],[],[],[],[16,53,54,55,56,57,58,59,60],[],[61],[],[14,62]]
noncomputable def n19:aU:=⟨az Tryz.f19,[.tmp 8,.tmp 9],[50,34]⟩
theorem i19:aN prog 19 IM=some n19:=fA Tryz.func19
noncomputable def k19:List AV->Option AV:=λxs=>bI prog inl Ql q3 100 IM n19 xs
def Oj:List AV:=[.v (.int .i64 45),.agg [.v (.int .i64 0),.arr 0 [],.v (.bool false),.v (.bool false),.v (.bool false),.v (.bool false),.v (.bool false),.arr 0 [],.v (.bool false),.v (.int .u32 0),.v (.int .u32 0),.v (.int .u32 0),.v (.bool false),.v (.bool false),.v (.bool false),.v (.int .i64 0),.v (.int .i64 0),.v (.bool false),.v (.bool false),.v (.int .i64 0),.arr 0 [],.arr 0 [],.arr 0 [],.arr 0 [],.v (.int .i64 0),.v (.bool false),.v (.bool false),.v (.int .i64 0),.v (.int .i64 0),.v (.int .i64 0),.v (.bool false),.v (.int .i64 0),.arr 0 [],.arr 0 [],.arr 0 [],.arr 0 []],.arr 1 [.v (.int .i64 7),.arr 2 [.v (.int .i64 2),.v (.int .i64 3)],.v (.bool true),.v (.int .i64 7),.arr 2 [.v (.int .i64 2),.v (.int .i64 3)],.arr 0 [],.arr 6 [.v (.int .i64 1),.v (.int .i64 2),.v (.int .i64 3),.v (.int .i64 4),.v (.int .i64 5),.v (.int .i64 6)],.arr 0 []],.v (.int .i64 1)]
def ack:AV:= .tuple [.fresh 8 1 [.v (.int .i64 7),.arr 2 [.v (.int .i64 3),.v (.int .i64 2)],.v (.bool false),.v (.int .i64 0),.arr 0 [],.arr 0 [],.arr 0 [],.arr 0 []],.v (.int .i64 0)]
theorem awf:k19 Oj=some ack:=by kernel_rfl
def Ol:List AV:=[.v (.int .i64 49),.agg [.v (.int .i64 0),.arr 0 [],.v (.bool false),.v (.bool false),.v (.bool false),.v (.bool false),.v (.bool false),.arr 0 [],.v (.bool false),.v (.int .u32 0),.v (.int .u32 0),.v (.int .u32 0),.v (.bool false),.v (.bool false),.v (.bool false),.v (.int .i64 0),.v (.int .i64 0),.v (.bool false),.v (.bool false),.v (.int .i64 0),.arr 0 [],.arr 0 [],.arr 0 [],.arr 0 [],.v (.int .i64 0),.v (.bool false),.v (.bool false),.v (.int .i64 0),.v (.int .i64 0),.v (.int .i64 0),.v (.bool false),.v (.int .i64 0),.arr 0 [],.arr 0 [],.arr 0 [],.arr 0 []],.arr 5 [.v (.int .i64 7),.arr 2 [.v (.int .i64 2),.v (.int .i64 3)],.v (.bool true),.v (.int .i64 7),.arr 2 [.v (.int .i64 2),.v (.int .i64 3)],.arr 0 [],.arr 6 [.v (.int .i64 1),.v (.int .i64 2),.v (.int .i64 3),.v (.int .i64 4),.v (.int .i64 5),.v (.int .i64 6)],.arr 0 [],.v (.int .i64 7),.arr 1 [.v (.int .i64 1)],.v (.bool true),.v (.int .i64 7),.arr 1 [.v (.int .i64 1)],.arr 0 [],.arr 1 [.v (.int .i64 2)],.arr 0 [],.v (.int .i64 7),.arr 1 [.v (.int .i64 1)],.v (.bool true),.v (.int .i64 7),.arr 1 [.v (.int .i64 1)],.arr 0 [],.arr 1 [.v (.int .i64 (-4))],.arr 0 [],.v (.int .i64 7),.arr 1 [.v (.int .i64 1)],.v (.bool true),.v (.int .i64 7),.arr 1 [.v (.int .i64 1)],.arr 0 [],.arr 1 [.v (.int .i64 1)],.arr 0 [],.v (.int .i64 7),.arr 1 [.v (.int .i64 1)],.v (.bool true),.v (.int .i64 7),.arr 1 [.v (.int .i64 1)],.arr 0 [],.arr 1 [.v (.int .i64 (-1))],.arr 0 []],.v (.int .i64 1)]
def acl:AV:= .tuple [.fresh 8 1 [.v (.int .i64 7),.arr 2 [.v (.int .i64 2),.v (.int .i64 3)],.v (.bool false),.v (.int .i64 0),.arr 0 [],.arr 0 [],.arr 0 [],.arr 0 []],.v (.int .i64 0)]
theorem awg:k19 Ol=some acl:=by kernel_rfl
def Om:List AV:=[.v (.int .i64 50),.agg [.v (.int .i64 1),.arr 0 [],.v (.bool false),.v (.bool false),.v (.bool false),.v (.bool false),.v (.bool false),.arr 0 [],.v (.bool false),.v (.int .u32 0),.v (.int .u32 0),.v (.int .u32 0),.v (.bool false),.v (.bool false),.v (.bool false),.v (.int .i64 0),.v (.int .i64 0),.v (.bool false),.v (.bool false),.v (.int .i64 0),.arr 0 [],.arr 0 [],.arr 0 [],.arr 0 [],.v (.int .i64 0),.v (.bool false),.v (.bool false),.v (.int .i64 0),.v (.int .i64 0),.v (.int .i64 0),.v (.bool false),.v (.int .i64 0),.arr 0 [],.arr 0 [],.arr 0 [],.arr 0 []],.arr 2 [.v (.int .i64 7),.arr 2 [.v (.int .i64 2),.v (.int .i64 3)],.v (.bool true),.v (.int .i64 7),.arr 2 [.v (.int .i64 2),.v (.int .i64 3)],.arr 0 [],.arr 6 [.v (.int .i64 1),.v (.int .i64 2),.v (.int .i64 3),.v (.int .i64 4),.v (.int .i64 5),.v (.int .i64 6)],.arr 0 [],.v (.int .i64 7),.arr 1 [.v (.int .i64 1)],.v (.bool true),.v (.int .i64 7),.arr 1 [.v (.int .i64 1)],.arr 0 [],.arr 1 [.v (.int .i64 3)],.arr 0 []],.v (.int .i64 1)]
def acm:AV:= .tuple [.fresh 8 1 [.v (.int .i64 7),.arr 2 [.v (.int .i64 2),.v (.int .i64 1)],.v (.bool false),.v (.int .i64 0),.arr 0 [],.arr 0 [],.arr 0 [],.arr 0 []],.v (.int .i64 0)]
theorem awh:k19 Om=some acm:=by kernel_rfl
def Oo:List AV:=[.v (.int .i64 50),.agg [.v (.int .i64 1),.arr 0 [],.v (.bool false),.v (.bool false),.v (.bool false),.v (.bool false),.v (.bool false),.arr 0 [],.v (.bool false),.v (.int .u32 0),.v (.int .u32 0),.v (.int .u32 0),.v (.bool false),.v (.bool false),.v (.bool false),.v (.int .i64 0),.v (.int .i64 0),.v (.bool false),.v (.bool false),.v (.int .i64 0),.arr 0 [],.arr 0 [],.arr 0 [],.arr 0 [],.v (.int .i64 0),.v (.bool false),.v (.bool false),.v (.int .i64 0),.v (.int .i64 0),.v (.int .i64 0),.v (.bool false),.v (.int .i64 0),.arr 0 [],.arr 0 [],.arr 0 [],.arr 0 []],.arr 2 [.v (.int .i64 7),.arr 2 [.v (.int .i64 2),.v (.int .i64 3)],.v (.bool true),.v (.int .i64 7),.arr 2 [.v (.int .i64 2),.v (.int .i64 3)],.arr 0 [],.arr 6 [.v (.int .i64 1),.v (.int .i64 2),.v (.int .i64 3),.v (.int .i64 4),.v (.int .i64 5),.v (.int .i64 6)],.arr 0 [],.v (.int .i64 7),.arr 1 [.v (.int .i64 2)],.v (.bool true),.v (.int .i64 7),.arr 1 [.v (.int .i64 2)],.arr 0 [],.arr 2 [.v (.int .i64 (-1)),.v (.int .i64 0)],.arr 0 []],.v (.int .i64 1)]
def acn:AV:= .tuple [.fresh 8 1 [.v (.int .i64 7),.arr 2 [.v (.int .i64 2),.v (.int .i64 2)],.v (.bool false),.v (.int .i64 0),.arr 0 [],.arr 0 [],.arr 0 [],.arr 0 []],.v (.int .i64 0)]
theorem awi:k19 Oo=some acn:=by kernel_rfl
def Oq:List AV:=[.v (.int .i64 52),.agg [.v (.int .i64 0),.arr 0 [],.v (.bool false),.v (.bool false),.v (.bool false),.v (.bool false),.v (.bool false),.arr 0 [],.v (.bool false),.v (.int .u32 0),.v (.int .u32 0),.v (.int .u32 0),.v (.bool false),.v (.bool false),.v (.bool false),.v (.int .i64 0),.v (.int .i64 4),.v (.bool false),.v (.bool false),.v (.int .i64 0),.arr 0 [],.arr 0 [],.arr 0 [],.arr 0 [],.v (.int .i64 0),.v (.bool false),.v (.bool false),.v (.int .i64 0),.v (.int .i64 0),.v (.int .i64 0),.v (.bool false),.v (.int .i64 0),.arr 0 [],.arr 0 [],.arr 0 [],.arr 0 []],.arr 3 [.v (.int .i64 7),.arr 1 [.v (.int .i64 3)],.v (.bool true),.v (.int .i64 7),.arr 1 [.v (.int .i64 3)],.arr 0 [],.arr 3 [.v (.int .i64 1),.v (.int .i64 2),.v (.int .i64 3)],.arr 0 [],.v (.int .i64 7),.arr 1 [.v (.int .i64 2)],.v (.bool true),.v (.int .i64 7),.arr 1 [.v (.int .i64 2)],.arr 0 [],.arr 2 [.v (.int .i64 0),.v (.int .i64 0)],.arr 0 [],.v (.int .i64 7),.arr 1 [.v (.int .i64 2)],.v (.bool true),.v (.int .i64 7),.arr 1 [.v (.int .i64 2)],.arr 0 [],.arr 2 [.v (.int .i64 5),.v (.int .i64 7)],.arr 0 []],.v (.int .i64 1)]
def aco:AV:= .tuple [.fresh 8 1 [.v (.int .i64 7),.arr 1 [.v (.int .i64 3)],.v (.bool false),.v (.int .i64 0),.arr 0 [],.arr 0 [],.arr 0 [],.arr 0 []],.v (.int .i64 0)]
theorem awj:k19 Oq=some aco:=by kernel_rfl
def Ot:List AV:=[.v (.int .i64 53),.agg [.v (.int .i64 0),.arr 0 [],.v (.bool false),.v (.bool false),.v (.bool false),.v (.bool false),.v (.bool false),.arr 0 [],.v (.bool false),.v (.int .u32 0),.v (.int .u32 0),.v (.int .u32 0),.v (.bool false),.v (.bool false),.v (.bool false),.v (.int .i64 0),.v (.int .i64 2),.v (.bool false),.v (.bool false),.v (.int .i64 0),.arr 0 [],.arr 0 [],.arr 0 [],.arr 0 [],.v (.int .i64 0),.v (.bool false),.v (.bool false),.v (.int .i64 0),.v (.int .i64 0),.v (.int .i64 0),.v (.bool false),.v (.int .i64 0),.arr 0 [],.arr 0 [],.arr 0 [],.arr 0 []],.arr 2 [.v (.int .i64 7),.arr 1 [.v (.int .i64 3)],.v (.bool true),.v (.int .i64 7),.arr 1 [.v (.int .i64 3)],.arr 0 [],.arr 3 [.v (.int .i64 1),.v (.int .i64 2),.v (.int .i64 3)],.arr 0 [],.v (.int .i64 7),.arr 1 [.v (.int .i64 2)],.v (.bool true),.v (.int .i64 7),.arr 1 [.v (.int .i64 2)],.arr 0 [],.arr 2 [.v (.int .i64 2),.v (.int .i64 1)],.arr 0 []],.v (.int .i64 1)]
def acp:AV:= .tuple [.fresh 8 1 [.v (.int .i64 7),.arr 1 [.v (.int .i64 6)],.v (.bool false),.v (.int .i64 0),.arr 0 [],.arr 0 [],.arr 0 [],.arr 0 []],.v (.int .i64 0)]
theorem awk:k19 Ot=some acp:=by kernel_rfl
noncomputable def z19:List AV->Option AV:=λxs=>if bJ (bP 8) xs Oj=true then some ack else if bJ (bP 8) xs Ol=true then some acl else if bJ (bP 8) xs Om=true then some acm else if bJ (bP 8) xs Oo=true then some acn else if bJ (bP 8) xs Oq=true then some aco else if bJ (bP 8) xs Ot=true then some acp else k19 xs
noncomputable def Qm:aC:=bQ 19 z19 Ql
theorem zi(args:List AV)(r:AV)(h:k19 args=some r):bH prog 19 args r:=by
  unfold k19 at h
  exact bM mixed WU ny i19 h
theorem WV:aK prog Qm:=bU WU fun args r h=>by
  unfold z19 at h
  by_cases h0:bJ (bP 8) args Oj=true
  · rw[if_pos h0]at h;injection h with h;subst h;rw[gy (iJ 8) h0];exact zi _ _ awf
  rw[if_neg h0]at h
  by_cases h1:bJ (bP 8) args Ol=true
  · rw[if_pos h1]at h;injection h with h;subst h;rw[gy (iJ 8) h1];exact zi _ _ awg
  rw[if_neg h1]at h
  by_cases h2:bJ (bP 8) args Om=true
  · rw[if_pos h2]at h;injection h with h;subst h;rw[gy (iJ 8) h2];exact zi _ _ awh
  rw[if_neg h2]at h
  by_cases h3:bJ (bP 8) args Oo=true
  · rw[if_pos h3]at h;injection h with h;subst h;rw[gy (iJ 8) h3];exact zi _ _ awi
  rw[if_neg h3]at h
  by_cases h4:bJ (bP 8) args Oq=true
  · rw[if_pos h4]at h;injection h with h;subst h;rw[gy (iJ 8) h4];exact zi _ _ awj
  rw[if_neg h4]at h
  by_cases h5:bJ (bP 8) args Ot=true
  · rw[if_pos h5]at h;injection h with h;subst h;rw[gy (iJ 8) h5];exact zi _ _ awk
  rw[if_neg h5]at h
  exact zi _ _ h
def IW:TD:=[(0,[2]),(0,[7,8,9]),(0,[8000003]),(0,[]),(0,[0]),(0,[]),(0,[]),(0,[]),(0,[11,12]),(0,[]),(0,[13]),(0,[]),(0,[14,15]),(0,[]),(8,[17,18,19,20,21,22,23,24]),(0,[]),(0,[5,6,25,26,27,28]),(0,[]),(0,[29]),(0,[]),(0,[3,30])]
noncomputable def n20:aU:=⟨az Tryz.f20,[.tmp 2],[50]⟩
theorem i20:aN prog 20 IW=some n20:=fA Tryz.func20
noncomputable def Qn:aC:=bQ 20 (λxs=>(bI prog inl Qm q3 100 IW n20 xs).bind (fP 4)) Qm
theorem WW:aK prog Qn:=bU WV fun args r h=>by
  obtain⟨r0,h0,h1⟩:=aA.1 h
  exact(bM mixed WV ny i20 h0).Nh h1
def Jj:TD:=zz [[4],[],[5],[],[7,8,9],[],[1,10,11,12,13,14,15],[],[],[],[0,17]]
noncomputable def n43:aU:=⟨az Tryz.f43,[.tmp 4],[3]⟩
theorem i43:aN prog 43 Jj=some n43:=fA Tryz.func43
noncomputable def Qo:aC:=bQ 43 (λxs=>bI prog inl Qn q3 100 Jj n43 xs) Qn
theorem WX:aK prog Qo:=bU WW λargs r h=>bM mixed WW ny i43 h
def I5:TD:=[(0,[2,3]),(0,[0,14,15,16]),(0,[1000004]),(0,[]),(0,[8,9,10,11,12,13]),(0,[]),(0,[]),(0,[]),(0,[18,19]),(0,[]),(14,[6,20,21,22,23,24,25,26,27,28,29,30,31,32]),(0,[]),(0,[33]),(0,[]),(0,[]),(0,[]),(0,[7,35,36,37,38]),(0,[]),(0,[39]),(0,[]),(0,[4,40])]
noncomputable def n22:aU:=⟨az Tryz.f22,[.tmp 2,.tmp 3],[22,4]⟩
theorem i22:aN prog 22 I5=some n22:=fA Tryz.func22
noncomputable def c70:aC:=bQ 22 (λxs=>bI prog inl Qo q3 100 I5 n22 xs) Qo
theorem WY:aK prog c70:=bU WX λargs r h=>bM mixed WX ny i22 h
def IZ:TD:=zz [[2],[0,4,5],[6,7,8],[],[],[],[9,10,11],[],[12],[],[14,15],[],[16,17,18,19],[],[20,21,22,23,24,25],[],[3,26]]
noncomputable def n208:aU:=⟨az Tryz.f208,[.tmp 2],[22]⟩
theorem i208:aN prog 208 IZ=some n208:=fA Tryz.func208
noncomputable def Qp:aC:=bQ 208 (λxs=>bI prog inl c70 q3 100 IZ n208 xs) c70
theorem WZ:aK prog Qp:=bU WY λargs r h=>bM mixed WY ny i208 h
def Ih:TD:=zz [[2,3],[],[4,6,7,8,9,10],[],[11],[],[13],[],[0,5,14,15]]
noncomputable def n105:aU:=⟨az Tryz.f105,[.tmp 2,.tmp 3],[22,34]⟩
theorem i105:aN prog 105 Ih=some n105:=fA Tryz.func105
noncomputable def c72:aC:=bQ 105 (λxs=>bI prog inl Qp q3 100 Ih n105 xs) Qp
theorem W9:aK prog c72:=bU WZ λargs r h=>bM mixed WZ ny i105 h
def Jm:TD:=zz [[2],[],[0,4,5,6,7,8,9],[],[3,10]]
noncomputable def n44:aU:=⟨az Tryz.f44,[.tmp 2],[22]⟩
theorem i44:aN prog 44 Jm=some n44:=fA Tryz.func44
noncomputable def Qq:aC:=bQ 44 (λxs=>bI prog inl c72 q3 100 Jm n44 xs) c72
theorem Xa:aK prog Qq:=bU W9 λargs r h=>bM mixed W9 ny i44 h
def Jo:TD:=zz [[4],[0,8,9,10],[],[],[1],[],[],[],[12,13,14],[],[6,7,15,16,17,18,19,20,21,22],[],[23],[],[5,24]]
noncomputable def n47:aU:=⟨az Tryz.f47,[.tmp 4],[3]⟩
theorem i47:aN prog 47 Jo=some n47:=fA Tryz.func47
noncomputable def Qr:aC:=bQ 47 (λxs=>bI prog inl Qq q3 100 Jo n47 xs) Qq
theorem Xb:aK prog Qr:=bU Xa λargs r h=>bM mixed Xa ny i47 h
def Io:TD:=zz [[5],[6,26],[9,10],[],[12],[],[13,14,15,16,17],[],[18],[],[20,21],[],[1,7,22,23,24,25],[],[0],[],[27,28,29],[],[31],[],[32,33,34],[],[36],[],[37,38,39],[],[8,40]]
noncomputable def n118:aU:=⟨az Tryz.f118,[.cell 4 28,.tmp 5],[28,34]⟩
theorem aqC:aN prog 118 Io=some n118:=fA Tryz.func118
noncomputable def c75:aC:=bQ 118 (λxs=>bI prog inl Qr q3 100 Io n118 xs) Qr
theorem DX:aK prog c75:=bU Xb λargs r h=>bM mixed Xb ny aqC h
def yG:TD:=zz [[8,9],[0,1,11,12,13],[2],[6,7],[],[],[15,16,17],[],[18],[],[20,21,22,23,24,25,26],[],[27]]
noncomputable def n120:aU:=⟨az Tryz.f120,[],[]⟩
theorem SA:aN prog 120 yG=some n120:=fA Tryz.func120
noncomputable def q4:bz:=iE prog inl c75 q3 100 120 yG n120 q3
theorem acg:eH prog q4:=je mixed DX ny SA ny
def yH:TD:=zz [[8,9],[0,1,11,12,13],[2],[6,7],[],[],[15,16,17],[],[18],[],[20,21,22,23,24,25,26],[],[27]]
noncomputable def n121:aU:=⟨az Tryz.f121,[],[]⟩
theorem SB:aN prog 121 yH=some n121:=fA Tryz.func121
noncomputable def q5:bz:=iE prog inl c75 q4 100 121 yH n121 q4
theorem ach:eH prog q5:=je mixed DX acg SB acg
def yI:TD:=zz [[8,9],[0,1,11,12,13],[2],[6,7],[],[],[15,16,17],[],[18],[],[20,21,22,23,24,25,26],[],[27]]
noncomputable def n122:aU:=⟨az Tryz.f122,[],[]⟩
theorem SC:aN prog 122 yI=some n122:=fA Tryz.func122
noncomputable def q6:bz:=iE prog inl c75 q5 100 122 yI n122 q5
theorem xE:eH prog q6:=je mixed DX ach SC ach
def Jr:TD:=zz [[0,7],[],[12,13],[],[14],[],[16,17],[],[1,8,18,19,20,21,22,23,24],[],[25],[],[27,28],[],[10,29,30,31,32,33,34,35,36,37,38,39],[],[40,41,42,43,44,45,46,47,48,49,50,51,52],[],[54],[],[11,55,56],[],[58],[],[59,60,61,62,63,64],[],[65,66,67,68,69,70],[],[2,3,71,72,73,74,75,76],[],[9,77]]
noncomputable def n52:aU:=⟨az Tryz.f52,[.cell 6 28,.tmp 7],[28,34]⟩
theorem i52:aN prog 52 Jr=some n52:=fA Tryz.func52
noncomputable def c76:aC:=bQ 52 (λxs=>bI prog inl c75 q6 100 Jr n52 xs) c75
theorem Xc:aK prog c76:=bU DX λargs r h=>bM mixed DX xE i52 h
def Ii:TD:=zz [[3],[],[0,1,4,5,6]]
noncomputable def n109:aU:=⟨az Tryz.f109,[.tmp 3],[3]⟩
theorem i109:aN prog 109 Ii=some n109:=fA Tryz.func109
noncomputable def Qs:aC:=bQ 109 (λxs=>bI prog inl c76 q6 100 Ii n109 xs) c76
theorem Xd:aK prog Qs:=bU Xc λargs r h=>bM mixed Xc xE i109 h
def Ik:TD:=[(0,[4]),(0,[]),(6,[0,1,2,5,6,7,8,9])]
noncomputable def n116:aU:=⟨az Tryz.f116,[.tmp 4],[3]⟩
theorem aqB:aN prog 116 Ik=some n116:=fA Tryz.func116
noncomputable def Qu:aC:=bQ 116 (λxs=>bI prog inl Qs q6 100 Ik n116 xs) Qs
theorem Xe:aK prog Qu:=bU Xd λargs r h=>bM mixed Xd xE aqB h
def Il:TD:=[(0,[7]),(0,[]),(0,[1,9,10,11,12]),(0,[]),(31,[0,2,3,4,5,8,13,14,15,16,17,18,19,20,21,22,23,24,25,26,27,28,29,30,31,32,33,34,35,36,37,38,39,40,41,42])]
noncomputable def n117:aU:=⟨az Tryz.f117,[.tmp 7],[3]⟩
theorem i117:aN prog 117 Il=some n117:=fA Tryz.func117
noncomputable def Qv:aC:=bQ 117 (λxs=>bI prog inl Qu q6 100 Il n117 xs) Qu
theorem Xf:aK prog Qv:=bU Xe λargs r h=>bM mixed Xe xE i117 h
def Ir:TD:=zz [[6],[0,1,2],[8,9,10,11,12,13,14],[],[15],[],[17,18,19,20,21,22],[],[23,24,25,26,27],[],[29,30,31,32,33,34,35,36,37,38],[],[39,40],[],[42,43,44,45,46,47],[],[48,49,50,51,52],[],[]]
noncomputable def n127:aU:=⟨az Tryz.f127,[.tmp 6],[3]⟩
theorem i127:aN prog 127 Ir=some n127:=fA Tryz.func127
noncomputable def c80:aC:=bQ 127 (λxs=>bI prog inl Qv q6 100 Ir n127 xs) Qv
theorem Xg:aK prog c80:=bU Xf λargs r h=>bM mixed Xf xE i127 h
def Iq:TD:=[(0,[5]),(0,[0,1,2,3,14,15,16]),(0,[]),(0,[]),(0,[10,11,12,13]),(0,[]),(0,[]),(0,[]),(0,[18,19,20]),(0,[]),(19,[8,21,22,23,24,25,26,27,28,29,30,31,32,33,34,35,36,37,38]),(0,[]),(0,[39]),(0,[]),(0,[41]),(0,[]),(0,[7,9,42,43,44,45,46,47,48,49]),(0,[]),(0,[50]),(0,[]),(0,[6,51])]
noncomputable def n126:aU:=⟨az Tryz.f126,[.tmp 5],[3]⟩
theorem aqE:aN prog 126 Iq=some n126:=fA Tryz.func126
noncomputable def AQ:aC:=bQ 126 (λxs=>bI prog inl c80 q6 100 Iq n126 xs) c80
theorem DY:aK prog AQ:=bU Xg λargs r h=>bM mixed Xg xE aqE h
def wO:TD:=[(5,[0,1,2,4,5,6,7,8,9])]
noncomputable def n107:aU:=⟨az Tryz.f107,[],[]⟩
theorem i107:aN prog 107 wO=some n107:=fA Tryz.func107
noncomputable def q7:bz:=iE prog inl AQ q6 100 107 wO n107 q6
theorem aci:eH prog q7:=je mixed DY xE i107 xE
def Bc:TD:=[(27,[0,1,2,3,4,6,7,8,9,10,11,12,13,14,15,16,17,18,19,20,21,22,23,24,25,26,27,28,29,30,31,32,33])]
noncomputable def n123:aU:=⟨az Tryz.f123,[],[]⟩
theorem SG:aN prog 123 Bc=some n123:=fA Tryz.func123
noncomputable def q8:bz:=iE prog inl AQ q7 100 123 Bc n123 q7
theorem acj:eH prog q8:=je mixed DY aci SG aci
def wM:TD:=[(0,[6]),(0,[0,1,4]),(0,[8,9,10]),(0,[5]),(0,[11,12,13]),(0,[5]),(0,[14,15,16]),(0,[]),(0,[17]),(0,[]),(0,[19,20]),(0,[]),(0,[21,22,23,24,25,26]),(0,[]),(9,[27,28,29,30,31,32,33,34]),(0,[]),(0,[36,37,38])]
noncomputable def n106:aU:=⟨az Tryz.f106,[],[]⟩
theorem La:aN prog 106 wM=some n106:=fA Tryz.func106
noncomputable def q9:bz:=iE prog inl AQ q8 100 106 wM n106 q8
theorem MN:eH prog q9:=je mixed DY acj La acj
def yQ:TD:=zz [[0,2],[],[4001000007],[],[5,10,11,12],[],[1,3,7,9,13,14,15,16,17,18,19],[],[8,20]]
noncomputable def n45:aU:=⟨az Tryz.f45,[.cell 6 28],[28]⟩
theorem i45:aN prog 45 yQ=some n45:=fA Tryz.func45
noncomputable def Qw:aC:=bQ 45 (λxs=>bI prog inl AQ q9 100 yQ n45 xs) AQ
theorem Xh:aK prog Qw:=bU DY λargs r h=>bM mixed DY MN i45 h
def yR:TD:=[(0,[]),(0,[5,23,24,25]),(0,[9,10,11,12,13,14]),(0,[7,8]),(0,[15,16]),(0,[]),(0,[17,18]),(0,[]),(0,[19,20,21,22]),(0,[]),(0,[]),(0,[]),(0,[27,28,29]),(0,[]),(0,[30,31,32,33]),(0,[]),(7,[35,36,37,38,39,40,41]),(0,[]),(0,[42]),(0,[]),(0,[0,1,6,43,44,45,46,47,48,49])]
noncomputable def n48:aU:=⟨az Tryz.f48,[.cell 4 28],[28]⟩
theorem i48:aN prog 48 yR=some n48:=fA Tryz.func48
noncomputable def Ha:aC:=bQ 48 (λxs=>bI prog inl Qw q9 100 yR n48 xs) Qw
theorem Qx:aK prog Ha:=bU Xh λargs r h=>bM mixed Xh MN i48 h
def Ba:TD:=zz [[6],[36,37,38],[1000007],[],[11,12,13,14,15,16,17,18,19,20,21,22,23,24,25,26,27],[2,55,56],[29,30,31,32,33,34,35],[],[],[],[40,41],[],[9,42,43,44,45],[],[46],[],[47],[],[0,1,48,49,50,51,52,53,54],[],[],[],[58],[],[10,59,60,61,62,63,64],[],[65],[],[7,66]]
noncomputable def n112:aU:=⟨az Tryz.f112,[.tmp 6],[22]⟩
theorem Sv:aN prog 112 Ba=some n112:=fA Tryz.func112
noncomputable def q10:bz:=iE prog inl Ha q9 100 112 Ba n112 q9
theorem Cc:eH prog q10:=je mixed Qx MN Sv MN
def Ij:TD:=zz [[6],[],[7],[],[9,10,11],[],[2,12],[],[14,15,16,17,18],[],[0,1,19,20,21,22]]
noncomputable def n115:aU:=⟨az Tryz.f115,[.tmp 6],[3]⟩
theorem aqA:aN prog 115 Ij=some n115:=fA Tryz.func115
noncomputable def Qy:aC:=bQ 115 (λxs=>bI prog inl Ha q10 100 Ij n115 xs) Ha
theorem Xi:aK prog Qy:=bU Qx λargs r h=>bM mixed Qx Cc aqA h
def Jp:TD:=[(0,[]),(0,[5,7,8,28,29,30]),(0,[14,15]),(0,[]),(0,[16,17]),(0,[]),(0,[18,19]),(0,[]),(0,[20,21,22,23,24,25]),(0,[]),(0,[26,27]),(0,[]),(0,[6]),(0,[]),(0,[]),(0,[]),(0,[32,33,34]),(0,[]),(0,[35,36,37,38,39,40,41]),(0,[]),(0,[42,43,44,45,46,47]),(0,[]),(21,[11,48,49,50,51,52,53,54,55,56,57,58,59,60,61,62,63,64,65,66,67,68]),(0,[]),(9,[12,13,69,70,71,72,73,74,75,76,77]),(0,[]),(0,[78]),(0,[]),(0,[0,1,9,10,79,80,81,82,83,84,85])]
noncomputable def n50:aU:=⟨az Tryz.f50,[.cell 4 28],[28]⟩
theorem i50:aN prog 50 Jp=some n50:=fA Tryz.func50
noncomputable def c85:aC:=bQ 50 (λxs=>bI prog inl Qy q10 100 Jp n50 xs) Qy
theorem Xj:aK prog c85:=bU Xi λargs r h=>bM mixed Xi Cc i50 h
def Jq:TD:=[(0,[0,2]),(0,[]),(0,[10,11,12,13,14,15,16,17]),(0,[]),(16,[18,19,20,21,22,23,24,25,26,27,28,29,30,31]),(0,[]),(0,[1,3,5,7,8,9,32,33,34,35,36,37,38])]
noncomputable def n51:aU:=⟨az Tryz.f51,[.cell 6 28],[28]⟩
theorem i51:aN prog 51 Jq=some n51:=fA Tryz.func51
noncomputable def Qz:aC:=bQ 51 (λxs=>bI prog inl c85 q10 100 Jq n51 xs) c85
theorem Xk:aK prog Qz:=bU Xj λargs r h=>bM mixed Xj Cc i51 h
def Jt:TD:=zz [[0,1,4],[],[4001000005],[],[7,8,9,10,11,12],[],[2,3,6,13,14,15,16,17,18,19,20,21],[],[5,22]]
noncomputable def n53:aU:=⟨az Tryz.f53,[.tmp 4],[22]⟩
theorem i53:aN prog 53 Jt=some n53:=fA Tryz.func53
noncomputable def c87:aC:=bQ 53 (λxs=>bI prog inl Qz q10 100 Jt n53 xs) Qz
theorem QB:aK prog c87:=bU Xk λargs r h=>bM mixed Xk Cc i53 h
def Bd:TD:=[(0,[]),(0,[0,6,21,22,23]),(1766847064778384329583316500264203817565420549730204426942382828014176368,[9,10,11,12,13,14,15,16,17,18]),(0,[]),(0,[1,19,20]),(0,[7,8]),(0,[]),(0,[]),(0,[25,26,27]),(0,[]),(9,[28,29,30,31,32,33,34,35,36]),(0,[]),(0,[38,39,40]),(0,[]),(9,[41,42,43,44,45,46,47,48,49]),(0,[]),(0,[51,52,53,54,55,56,57,58,59,60,61]),(0,[]),(12,[62,63,64,65,66,67,68,69,70,71,72,73]),(0,[]),(0,[75,76,77,78,79,80,81,82,83,84,85]),(0,[]),(12,[86,87,88,89,90,91,92,93,94,95,96,97]),(0,[]),(0,[99,100,101]),(0,[]),(9,[102,103,104,105,106,107,108,109,110]),(0,[]),(0,[112,113,114,115,116,117]),(0,[]),(15,[118,119,120,121,122,123,124,125,126,127,128,129,130,131,132]),(0,[]),(0,[134,135,136,137,138,139]),(0,[]),(15,[140,141,142,143,144,145,146,147,148,149,150,151,152,153,154]),(0,[]),(0,[155]),(0,[]),(0,[5,156])]
noncomputable def n54:aU:=⟨az Tryz.f54,[.cell 4 28],[28]⟩
theorem i54:aN prog 54 Bd=some n54:=fA Tryz.func54
noncomputable def q11:bz:=iE prog inl c87 q10 100 54 Bd n54 q10
theorem Uo:eH prog q11:=je mixed QB Cc i54 Cc
def Jv:TD:=[(0,[0]),(0,[]),(0,[8,9,10,11]),(0,[]),(0,[12,13,14,15,16,17,18,19,20,21,22,23,24,25,26]),(0,[]),(0,[28,29,30,31,32,33,34,35,36]),(0,[]),(12,[37,38,39,40,41,42,43,44,45,46,47,48]),(0,[]),(0,[49,50,51,52,53,54]),(0,[]),(0,[1,2,5,6,7,55,56,57,58])]
noncomputable def n55:aU:=⟨az Tryz.f55,[.cell 4 28],[28]⟩
theorem i55:aN prog 55 Jv=some n55:=fA Tryz.func55
noncomputable def He:aC:=bQ 55 (λxs=>bI prog inl c87 q11 100 Jv n55 xs) c87
theorem QC:aK prog He:=bU QB λargs r h=>bM mixed QB Uo i55 h
def wQ:TD:=[(0,[]),(0,[2,13,60,66,73]),(0,[10,11,12]),(0,[]),(0,[15]),(0,[]),(0,[16,17,18]),(0,[]),(0,[20]),(0,[]),(0,[21,22,23]),(0,[]),(0,[25]),(0,[]),(0,[26,27,28]),(0,[]),(0,[30]),(0,[]),(0,[31,32,33,34]),(0,[]),(0,[36]),(0,[]),(20461022922632640854861491178342245317382250597504,[8,37,38,39,40,41,42,43,44,45,46,47,48]),(0,[]),(0,[7,49]),(0,[]),(0,[51]),(0,[]),(0,[52,53,54]),(0,[]),(0,[56]),(0,[]),(0,[57,58,59]),(0,[]),(0,[61]),(0,[]),(0,[62]),(0,[]),(0,[63,64,65]),(0,[]),(0,[67]),(0,[]),(0,[68]),(0,[]),(0,[69]),(0,[]),(0,[70,71,72]),(0,[]),(0,[74]),(0,[]),(0,[75]),(0,[]),(0,[76,77,78]),(0,[]),(0,[0,79,80,81,82]),(0,[]),(0,[1,83,84]),(0,[]),(0,[9,85]),(0,[]),(0,[]),(0,[]),(0,[]),(0,[]),(0,[]),(0,[]),(0,[]),(0,[]),(0,[]),(0,[]),(0,[]),(0,[]),(0,[]),(0,[]),(0,[]),(0,[]),(0,[]),(0,[]),(0,[]),(0,[]),(0,[]),(0,[]),(0,[]),(0,[]),(0,[]),(0,[]),(0,[]),(0,[]),(0,[]),(0,[]),(0,[]),(0,[]),(0,[]),(0,[]),(0,[]),(0,[]),(0,[]),(0,[]),(0,[]),(0,[]),(0,[]),(0,[]),(0,[]),(0,[]),(0,[]),(0,[]),(0,[]),(0,[]),(0,[]),(0,[]),(0,[]),(0,[]),(0,[]),(0,[]),(0,[]),(0,[]),(0,[]),(0,[]),(0,[]),(0,[]),(0,[]),(1,[]),(0,[]),(0,[]),(0,[]),(0,[]),(0,[]),(0,[]),(0,[]),(0,[]),(0,[]),(0,[]),(0,[]),(1,[]),(0,[]),(0,[]),(0,[]),(0,[]),(0,[]),(0,[]),(0,[]),(0,[]),(0,[]),(0,[]),(0,[]),(0,[]),(0,[]),(1,[])]
noncomputable def n24:aU:=⟨az Tryz.f24,[.cell 6 28],[28]⟩
theorem i24:aN prog 24 wQ=some n24:=fA Tryz.func24
noncomputable def q12:bz:=iE prog inl He q11 100 24 wQ n24 q11
theorem MM:eH prog q12:=je mixed QC Uo i24 Uo
def d7:TD:=[(0,[1,8,9]),(0,[25,26,27]),(0,[18,19]),(0,[]),(0,[]),(0,[]),(0,[21,22,23,24,41505000010]),(0,[]),(0,[]),(0,[]),(0,[]),(0,[]),(0,[29,30]),(0,[]),(0,[31,32]),(0,[]),(0,[34,35]),(0,[]),(0,[36]),(0,[]),(0,[38]),(0,[]),(1008,[12,13,39,40,41,42,43,44,45,46,47,48,49]),(0,[]),(0,[50]),(0,[]),(11,[2,3,51,52,53,54,55,56,57,58,59]),(0,[]),(0,[60]),(0,[]),(0,[62]),(0,[]),(0,[15,63,64,65,66,67,68,69,70,71]),(0,[]),(23384026197294446691298571404717660483291694666880,[5,72,73,74,75,76,77,78,79,80,81,82,83,84,85,86]),(0,[]),(0,[1000016]),(0,[]),(0,[87,88,89,90,91,92,93,94,95]),(0,[]),(0,[17]),(0,[]),(0,[97,98,99,100,101]),(0,[]),(0,[17,102]),(0,[]),(0,[]),(0,[]),(0,[0,104]),(0,[]),(0,[106,107,108]),(0,[]),(0,[10,14,16,109,110,111,112,113,114,115,116])]
noncomputable def n7:aU:=⟨az Tryz.f7,[.tmp 8,.tmp 9],[31,34]⟩
theorem i7:aN prog 7 d7=some n7:=fA Tryz.func7
noncomputable def k7:List AV->Option AV:=λxs=>bI prog inl He q12 100 d7 n7 xs
def Ou:List AV:=[.v (.int .i64 45),.agg [.v (.int .i64 0),.arr 0 [],.v (.bool false),.v (.bool false),.v (.bool false),.v (.bool false),.v (.bool false),.arr 0 [],.v (.bool false),.v (.int .u32 0),.v (.int .u32 0),.v (.int .u32 0),.v (.bool false),.v (.bool false),.v (.bool false),.v (.int .i64 0),.v (.int .i64 0),.v (.bool false),.v (.bool false),.v (.int .i64 0),.arr 0 [],.arr 0 [],.arr 0 [],.arr 0 [],.v (.int .i64 0),.v (.bool false),.v (.bool false),.v (.int .i64 0),.v (.int .i64 0),.v (.int .i64 0),.v (.bool false),.v (.int .i64 0),.arr 0 [],.arr 0 [],.arr 0 [],.arr 0 []],.arr 1 [.v (.int .i64 7),.arr 2 [.v (.int .i64 2),.v (.int .i64 3)],.arr 0 [],.arr 6 [.v (.int .i64 1),.v (.int .i64 2),.v (.int .i64 3),.v (.int .i64 4),.v (.int .i64 5),.v (.int .i64 6)],.arr 0 []],.v (.int .i64 1)]
def acr:AV:= .tuple [.arr 1 [.v (.int .i64 7),.arr 2 [.v (.int .i64 3),.v (.int .i64 2)],.arr 0 [],.arr 6 [.v (.int .i64 1),.v (.int .i64 4),.v (.int .i64 2),.v (.int .i64 5),.v (.int .i64 3),.v (.int .i64 6)],.arr 0 []],.v (.int .i64 0)]
theorem awl:k7 Ou=some acr:=by kernel_rfl
def Ov:List AV:=[.v (.int .i64 49),.agg [.v (.int .i64 0),.arr 0 [],.v (.bool false),.v (.bool false),.v (.bool false),.v (.bool false),.v (.bool false),.arr 0 [],.v (.bool false),.v (.int .u32 0),.v (.int .u32 0),.v (.int .u32 0),.v (.bool false),.v (.bool false),.v (.bool false),.v (.int .i64 0),.v (.int .i64 0),.v (.bool false),.v (.bool false),.v (.int .i64 0),.arr 0 [],.arr 0 [],.arr 0 [],.arr 0 [],.v (.int .i64 0),.v (.bool false),.v (.bool false),.v (.int .i64 0),.v (.int .i64 0),.v (.int .i64 0),.v (.bool false),.v (.int .i64 0),.arr 0 [],.arr 0 [],.arr 0 [],.arr 0 []],.arr 5 [.v (.int .i64 7),.arr 2 [.v (.int .i64 2),.v (.int .i64 3)],.arr 0 [],.arr 6 [.v (.int .i64 1),.v (.int .i64 2),.v (.int .i64 3),.v (.int .i64 4),.v (.int .i64 5),.v (.int .i64 6)],.arr 0 [],.v (.int .i64 7),.arr 1 [.v (.int .i64 1)],.arr 0 [],.arr 1 [.v (.int .i64 2)],.arr 0 [],.v (.int .i64 7),.arr 1 [.v (.int .i64 1)],.arr 0 [],.arr 1 [.v (.int .i64 (-4))],.arr 0 [],.v (.int .i64 7),.arr 1 [.v (.int .i64 1)],.arr 0 [],.arr 1 [.v (.int .i64 1)],.arr 0 [],.v (.int .i64 7),.arr 1 [.v (.int .i64 1)],.arr 0 [],.arr 1 [.v (.int .i64 (-1))],.arr 0 []],.v (.int .i64 1)]
def acs:AV:= .tuple [.arr 1 [.v (.int .i64 7),.arr 2 [.v (.int .i64 2),.v (.int .i64 3)],.arr 0 [],.arr 6 [.v (.int .i64 3),.v (.int .i64 2),.v (.int .i64 1),.v (.int .i64 6),.v (.int .i64 5),.v (.int .i64 4)],.arr 0 []],.v (.int .i64 0)]
theorem awm:k7 Ov=some acs:=by kernel_rfl
def Ox:List AV:=[.v (.int .i64 50),.agg [.v (.int .i64 1),.arr 0 [],.v (.bool false),.v (.bool false),.v (.bool false),.v (.bool false),.v (.bool false),.arr 0 [],.v (.bool false),.v (.int .u32 0),.v (.int .u32 0),.v (.int .u32 0),.v (.bool false),.v (.bool false),.v (.bool false),.v (.int .i64 0),.v (.int .i64 0),.v (.bool false),.v (.bool false),.v (.int .i64 0),.arr 0 [],.arr 0 [],.arr 0 [],.arr 0 [],.v (.int .i64 0),.v (.bool false),.v (.bool false),.v (.int .i64 0),.v (.int .i64 0),.v (.int .i64 0),.v (.bool false),.v (.int .i64 0),.arr 0 [],.arr 0 [],.arr 0 [],.arr 0 []],.arr 2 [.v (.int .i64 7),.arr 2 [.v (.int .i64 2),.v (.int .i64 3)],.arr 0 [],.arr 6 [.v (.int .i64 1),.v (.int .i64 2),.v (.int .i64 3),.v (.int .i64 4),.v (.int .i64 5),.v (.int .i64 6)],.arr 0 [],.v (.int .i64 7),.arr 1 [.v (.int .i64 1)],.arr 0 [],.arr 1 [.v (.int .i64 3)],.arr 0 []],.v (.int .i64 1)]
def acu:AV:= .tuple [.fresh 5 0 [],.v (.int .i64 11)]
theorem awn:k7 Ox=some acu:=by kernel_rfl
def Oy:List AV:=[.v (.int .i64 50),.agg [.v (.int .i64 1),.arr 0 [],.v (.bool false),.v (.bool false),.v (.bool false),.v (.bool false),.v (.bool false),.arr 0 [],.v (.bool false),.v (.int .u32 0),.v (.int .u32 0),.v (.int .u32 0),.v (.bool false),.v (.bool false),.v (.bool false),.v (.int .i64 0),.v (.int .i64 0),.v (.bool false),.v (.bool false),.v (.int .i64 0),.arr 0 [],.arr 0 [],.arr 0 [],.arr 0 [],.v (.int .i64 0),.v (.bool false),.v (.bool false),.v (.int .i64 0),.v (.int .i64 0),.v (.int .i64 0),.v (.bool false),.v (.int .i64 0),.arr 0 [],.arr 0 [],.arr 0 [],.arr 0 []],.arr 2 [.v (.int .i64 7),.arr 2 [.v (.int .i64 2),.v (.int .i64 3)],.arr 0 [],.arr 6 [.v (.int .i64 1),.v (.int .i64 2),.v (.int .i64 3),.v (.int .i64 4),.v (.int .i64 5),.v (.int .i64 6)],.arr 0 [],.v (.int .i64 7),.arr 1 [.v (.int .i64 2)],.arr 0 [],.arr 2 [.v (.int .i64 (-1)),.v (.int .i64 0)],.arr 0 []],.v (.int .i64 1)]
def acv:AV:= .tuple [.arr 1 [.v (.int .i64 7),.arr 2 [.v (.int .i64 2),.v (.int .i64 2)],.arr 0 [],.arr 4 [.v (.int .i64 3),.v (.int .i64 1),.v (.int .i64 6),.v (.int .i64 4)],.arr 0 []],.v (.int .i64 0)]
theorem awo:k7 Oy=some acv:=by kernel_rfl
def Oz:List AV:=[.v (.int .i64 52),.agg [.v (.int .i64 0),.arr 0 [],.v (.bool false),.v (.bool false),.v (.bool false),.v (.bool false),.v (.bool false),.arr 0 [],.v (.bool false),.v (.int .u32 0),.v (.int .u32 0),.v (.int .u32 0),.v (.bool false),.v (.bool false),.v (.bool false),.v (.int .i64 0),.v (.int .i64 4),.v (.bool false),.v (.bool false),.v (.int .i64 0),.arr 0 [],.arr 0 [],.arr 0 [],.arr 0 [],.v (.int .i64 0),.v (.bool false),.v (.bool false),.v (.int .i64 0),.v (.int .i64 0),.v (.int .i64 0),.v (.bool false),.v (.int .i64 0),.arr 0 [],.arr 0 [],.arr 0 [],.arr 0 []],.arr 3 [.v (.int .i64 7),.arr 1 [.v (.int .i64 3)],.arr 0 [],.arr 3 [.v (.int .i64 1),.v (.int .i64 2),.v (.int .i64 3)],.arr 0 [],.v (.int .i64 7),.arr 1 [.v (.int .i64 2)],.arr 0 [],.arr 2 [.v (.int .i64 0),.v (.int .i64 0)],.arr 0 [],.v (.int .i64 7),.arr 1 [.v (.int .i64 2)],.arr 0 [],.arr 2 [.v (.int .i64 5),.v (.int .i64 7)],.arr 0 []],.v (.int .i64 1)]
def acw:AV:= .tuple [.arr 1 [.v (.int .i64 7),.arr 1 [.v (.int .i64 3)],.arr 0 [],.arr 3 [.v (.int .i64 13),.v (.int .i64 2),.v (.int .i64 3)],.arr 0 []],.v (.int .i64 0)]
theorem awp:k7 Oz=some acw:=by kernel_rfl
def OA:List AV:=[.v (.int .i64 53),.agg [.v (.int .i64 0),.arr 0 [],.v (.bool false),.v (.bool false),.v (.bool false),.v (.bool false),.v (.bool false),.arr 0 [],.v (.bool false),.v (.int .u32 0),.v (.int .u32 0),.v (.int .u32 0),.v (.bool false),.v (.bool false),.v (.bool false),.v (.int .i64 0),.v (.int .i64 2),.v (.bool false),.v (.bool false),.v (.int .i64 0),.arr 0 [],.arr 0 [],.arr 0 [],.arr 0 [],.v (.int .i64 0),.v (.bool false),.v (.bool false),.v (.int .i64 0),.v (.int .i64 0),.v (.int .i64 0),.v (.bool false),.v (.int .i64 0),.arr 0 [],.arr 0 [],.arr 0 [],.arr 0 []],.arr 2 [.v (.int .i64 7),.arr 1 [.v (.int .i64 3)],.arr 0 [],.arr 3 [.v (.int .i64 1),.v (.int .i64 2),.v (.int .i64 3)],.arr 0 [],.v (.int .i64 7),.arr 1 [.v (.int .i64 2)],.arr 0 [],.arr 2 [.v (.int .i64 2),.v (.int .i64 1)],.arr 0 []],.v (.int .i64 1)]
def acx:AV:= .tuple [.arr 1 [.v (.int .i64 7),.arr 1 [.v (.int .i64 6)],.arr 0 [],.arr 6 [.v (.int .i64 3),.v (.int .i64 2),.v (.int .i64 1),.v (.int .i64 2),.v (.int .i64 3),.v (.int .i64 2)],.arr 0 []],.v (.int .i64 0)]
theorem awq:k7 OA=some acx:=by kernel_rfl
noncomputable def z7:List AV->Option AV:=λxs=>if bJ (bP 8) xs Ou=true then some acr else if bJ (bP 8) xs Ov=true then some acs else if bJ (bP 8) xs Ox=true then some acu else if bJ (bP 8) xs Oy=true then some acv else if bJ (bP 8) xs Oz=true then some acw else if bJ (bP 8) xs OA=true then some acx else k7 xs
noncomputable def QD:aC:=bQ 7 z7 He
theorem zl(args:List AV)(r:AV)(h:k7 args=some r):bH prog 7 args r:=by
  unfold k7 at h
  exact bM mixed QC MM i7 h
theorem Xl:aK prog QD:=bU QC fun args r h=>by
  unfold z7 at h
  by_cases h0:bJ (bP 8) args Ou=true
  · rw[if_pos h0]at h;injection h with h;subst h;rw[gy (iJ 8) h0];exact zl _ _ awl
  rw[if_neg h0]at h
  by_cases h1:bJ (bP 8) args Ov=true
  · rw[if_pos h1]at h;injection h with h;subst h;rw[gy (iJ 8) h1];exact zl _ _ awm
  rw[if_neg h1]at h
  by_cases h2:bJ (bP 8) args Ox=true
  · rw[if_pos h2]at h;injection h with h;subst h;rw[gy (iJ 8) h2];exact zl _ _ awn
  rw[if_neg h2]at h
  by_cases h3:bJ (bP 8) args Oy=true
  · rw[if_pos h3]at h;injection h with h;subst h;rw[gy (iJ 8) h3];exact zl _ _ awo
  rw[if_neg h3]at h
  by_cases h4:bJ (bP 8) args Oz=true
  · rw[if_pos h4]at h;injection h with h;subst h;rw[gy (iJ 8) h4];exact zl _ _ awp
  rw[if_neg h4]at h
  by_cases h5:bJ (bP 8) args OA=true
  · rw[if_pos h5]at h;injection h with h;subst h;rw[gy (iJ 8) h5];exact zl _ _ awq
  rw[if_neg h5]at h
  exact zl _ _ h
def Yt:TD:=zz [[],[],[0,3,4,5,6,7]]
noncomputable def n15:aU:=⟨az Tryz.f15,[.cell 2 28],[28]⟩
theorem i15:aN prog 15 Yt=some n15:=fA Tryz.func15
noncomputable def QE:aC:=bQ 15 (λxs=>(bI prog inl QD q12 100 Yt n15 xs).bind (fP 4)) QD
theorem Xm:aK prog QE:=bU Xl fun args r h=>by
  obtain⟨r0,h0,h1⟩:=aA.1 h
  exact(bM mixed Xl MM i15 h0).Nh h1
def Yu:TD:=[(0,[6]),(0,[0,2,7]),(0,[1,8,9,10,11,12,13,14,15,16,17,18,19,20,21,22,23]),(0,[]),(0,[]),(0,[]),(0,[]),(0,[]),(0,[25,26,27]),(0,[]),(0,[29,30]),(0,[]),(12,[31,32,33,34,35,36,37,38,39,40,41]),(0,[]),(0,[]),(0,[]),(0,[])]
noncomputable def n16:aU:=⟨az Tryz.f16,[.tmp 6],[4]⟩
theorem i16:aN prog 16 Yu=some n16:=fA Tryz.func16
noncomputable def c91:aC:=bQ 16 (λxs=>bI prog inl QE q12 100 Yu n16 xs) QE
theorem Xn:aK prog c91:=bU Xm λargs r h=>bM mixed Xm MM i16 h
def d5:TD:=[(0,[0]),(0,[]),(0,[14,15,16]),(0,[]),(0,[17,18,19,20,21,22,23,5000000001,6000000001,7000000001,8000000001]),(0,[]),(17,[24,25,26,27,28,29,30,31,32,33,34,35,36,37,38]),(0,[]),(11,[39,40,41,42,43,44,45,46,47]),(0,[]),(11,[1,8,48,49,50,51,52,53,54,55,56]),(0,[]),(0,[57,58,59,60,61,62,63,64,65,66]),(0,[]),(0,[67,68,69,70,71,72,73,74,75,76,77,78]),(0,[]),(0,[2,3,4,5,6,7,9,10,11,12,13,79,80,81,82,83,84,85,86,87,88,89,90,91,92,93,94,95,96,97,98,99,100,101,102,103,104,105,106,107,108,109,110])]
noncomputable def n5:aU:=⟨az Tryz.f5,[.tmp 0],[4]⟩
theorem i5:aN prog 5 d5=some n5:=fA Tryz.func5
noncomputable def Xo:aC:=bQ 5 (λxs=>bI prog aaI c91 q12 100 d5 n5 xs) c91
theorem Xp:aK prog Xo:=bU Xn λargs r h=>bM mixed Xn MM i5 h
theorem aw5:Xo 5 []=some (.v (.bool true)):=by kernel_rfl
end Aw
theorem ahv:bH prog 5 [] (.v (.bool true)):=Aw.Xp 5 [] _ Aw.aw5
theorem akK:bH prog 87 [.v (.int .i64 45)] (.tuple [.v (.int .i64 1),.v (.int .i64 1),.v (.int .i64 1),.v (.int .i64 1)]):=Aw.gJ _ _ Aw.abK
theorem akL:bH prog 87 [.v (.int .i64 46)] (.tuple [.v (.int .i64 2),.v (.int .i64 2),.v (.int .i64 1),.v (.int .i64 1)]):=Aw.gJ _ _ Aw.abL
theorem akM:bH prog 87 [.v (.int .i64 47)] (.tuple [.v (.int .i64 1),.v (.int .i64 64),.v (.int .i64 1),.v (.int .i64 1)]):=Aw.gJ _ _ Aw.abV
theorem akN:bH prog 87 [.v (.int .i64 48)] (.tuple [.v (.int .i64 1),.v (.int .i64 2),.v (.int .i64 1),.v (.int .i64 64)]):=Aw.gJ _ _ Aw.abW
theorem akO:bH prog 87 [.v (.int .i64 49)] (.tuple [.v (.int .i64 3),.v (.int .i64 5),.v (.int .i64 1),.v (.int .i64 1)]):=Aw.gJ _ _ Aw.abX
theorem akP:bH prog 87 [.v (.int .i64 50)] (.tuple [.v (.int .i64 2),.v (.int .i64 2),.v (.int .i64 1),.v (.int .i64 1)]):=Aw.gJ _ _ Aw.abY
theorem akQ:bH prog 87 [.v (.int .i64 51)] (.tuple [.v (.int .i64 2),.v (.int .i64 2),.v (.int .i64 1),.v (.int .i64 1)]):=Aw.gJ _ _ Aw.abZ
theorem akR:bH prog 87 [.v (.int .i64 52)] (.tuple [.v (.int .i64 3),.v (.int .i64 3),.v (.int .i64 1),.v (.int .i64 1)]):=Aw.gJ _ _ Aw.ab1
theorem akS:bH prog 87 [.v (.int .i64 53)] (.tuple [.v (.int .i64 2),.v (.int .i64 3),.v (.int .i64 1),.v (.int .i64 1)]):=Aw.gJ _ _ Aw.ab2
theorem akT:bH prog 87 [.v (.int .i64 54)] (.tuple [.v (.int .i64 2),.v (.int .i64 2),.v (.int .i64 1),.v (.int .i64 1)]):=Aw.gJ _ _ Aw.ab3
theorem akU:bH prog 87 [.v (.int .i64 55)] (.tuple [.v (.int .i64 2),.v (.int .i64 2),.v (.int .i64 1),.v (.int .i64 1)]):=Aw.gJ _ _ Aw.abM
theorem akV:bH prog 87 [.v (.int .i64 56)] (.tuple [.v (.int .i64 1),.v (.int .i64 2),.v (.int .i64 1),.v (.int .i64 1)]):=Aw.gJ _ _ Aw.abN
theorem akW:bH prog 87 [.v (.int .i64 57)] (.tuple [.v (.int .i64 2),.v (.int .i64 2),.v (.int .i64 1),.v (.int .i64 1)]):=Aw.gJ _ _ Aw.abO
theorem akX:bH prog 87 [.v (.int .i64 58)] (.tuple [.v (.int .i64 1),.v (.int .i64 1),.v (.int .i64 1),.v (.int .i64 1)]):=Aw.gJ _ _ Aw.abP
theorem akY:bH prog 87 [.v (.int .i64 59)] (.tuple [.v (.int .i64 1),.v (.int .i64 1),.v (.int .i64 1),.v (.int .i64 1)]):=Aw.gJ _ _ Aw.abQ
theorem akZ:bH prog 87 [.v (.int .i64 60)] (.tuple [.v (.int .i64 1),.v (.int .i64 1),.v (.int .i64 1),.v (.int .i64 1)]):=Aw.gJ _ _ Aw.abR
theorem ak0:bH prog 87 [.v (.int .i64 62)] (.tuple [.v (.int .i64 1),.v (.int .i64 1),.v (.int .i64 1),.v (.int .i64 1)]):=Aw.gJ _ _ Aw.abS
theorem ak1:bH prog 87 [.v (.int .i64 63)] (.tuple [.v (.int .i64 1),.v (.int .i64 1),.v (.int .i64 1),.v (.int .i64 1)]):=Aw.gJ _ _ Aw.abT
theorem ak2:bH prog 87 [.v (.int .i64 64)] (.tuple [.v (.int .i64 1),.v (.int .i64 1),.v (.int .i64 1),.v (.int .i64 1)]):=Aw.gJ _ _ Aw.abU
end Go.Av
