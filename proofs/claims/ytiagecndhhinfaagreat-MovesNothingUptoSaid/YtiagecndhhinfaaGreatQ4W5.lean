/- The walks of the plain functions. Made by a program of mine. Conditions: none. -/
import Derived.Test.YtiagecndhhinfaaGreatQ4W1
set_option linter.unusedVariables false
set_option linter.unusedSimpArgs false
set_option linter.defProp false
set_option maxRecDepth 20000
set_option maxHeartbeats 20000000
open Go Go.Proofs
open Tryz (prog)
namespace Go.Av
open Aw (wM wO wP Ba yG yH yI Bc yJ yK yL yM wQ yN yO yP yQ yR yS yT)
def YW:TD:=zz [[],[3,4],[6,7,8,9],[],[10,11,12],[],[0,13,14,15,16],[],[17,18,19,20,21,22],[],[24,25],[],[26,27,28],[],[29,30,31],[],[33,34],[],[35,36,37],[],[5,38]]
noncomputable abbrev XK(fu:Nat):Cm prog Int qL:=⟨252,fun t=>[.v (.int .u32 t)],xJ fu,fun r=> .agg [.v (.bool r.fneg),.v (.bool r.fnan),.v (.bool r.finf),.v (.int .i64 r.fexp),.v (.int .u64 r.fsig)],by
 rintro x1
 refine pT fu YW Tryz.func252 [.cell 2 185] [185] [] [] (λcp H=> ?_)
 unfold xJ
 have z0:=Da (aJ YW.eq_1)
 exact Wk,Zi⟩
def YZ:TD:=zz [[2],[],[0],[],[],[],[]]
noncomputable abbrev DZ(fu:Nat):Cm prog Bool Int:=⟨255,fun t=>[.v (.bool t)],oD fu,fun r=> .v (.int .u32 r),by
 rintro x1
 refine pT fu YZ Tryz.func255 [.tmp 2] [23] [] [] (λcp H=> ?_)
 unfold oD
 have z0:=Da (aJ YZ.eq_1)
 exact Wk,Zi⟩
def YX:TD:=zz [[2],[],[0,3,4,5]]
noncomputable abbrev ajT(fu:Nat):Cm prog Int Int:=⟨253,fun t=>[.v (.int .i64 t)],CP fu,fun r=> .v (.int .u32 r),by
 rintro x1
 refine pT fu YX Tryz.func253 [.tmp 2] [23] [(DZ fu).ct] [255] (λcp H=> ?_)
 obtain⟨H1, -⟩:=H
 unfold CP
 have z0:=Da (aJ YX.eq_1)
 exact Wk,Zi⟩
def Y6:TD:=zz [[],[],[3],[],[5,6],[],[],[],[7],[],[9,10],[],[11,12],[],[13],[],[15,16],[],[17,18],[],[0,19,20,21,22,23,24]]
def lI.j2:LJ 2 14 Unit (Int×Int):=⟨λr t e=>[(0,.v (.int .u64 t.1)),(2,.v (.int .i64 t.2))],λr t h=>[]⟩
def lI.j1:LJ 1 8 Unit (Int×Int):=⟨λr t e=>[(0,.v (.int .u64 t.1)),(2,.v (.int .i64 t.2))],λr t h=>[]⟩
open lI in
noncomputable abbrev ajW(fu:Nat):Cm prog Int Int:=⟨285,fun t=>[.v (.int .u64 t)],lI fu,fun r=> .v (.int .i64 r),by
 rintro x1
 refine pT fu Y6 Tryz.func285 [.tmp 2] [3] [] [] (λcp H=> ?_)
 unfold lI
 have z0:=Da (aJ Y6.eq_1)
 exact Wk,Zi⟩
def Y9:TD:=zz [[4],[],[0,1,5,6,7,8,9,10,11,12,13,14,15,16,17]]
noncomputable abbrev ajZ(fu:Nat):Cm prog (Int×Bool) Bool:=⟨288,fun t=>[.v (.int .i64 t.1),.v (.bool t.2)],fun t=>Nu fu t.1 t.2,fun r=> .v (.bool r),by
 rintro⟨x1,x2⟩
 refine pT fu Y9 Tryz.func288 [.tmp 4] [4] [] [] (λcp H=> ?_)
 dsimp only
 unfold Nu
 have z0:=Da (aJ Y9.eq_1)
 exact Wk,Zi⟩
def Y7:TD:=zz [[4],[],[0,5,6],[],[8,9,10],[],[1,11,12]]
noncomputable abbrev ajX(fu:Nat):Cm prog (Int×Bool) Int:=⟨286,fun t=>[.v (.int .i64 t.1),.v (.bool t.2)],fun t=>CQ fu t.1 t.2,fun r=> .v (.int .u32 r),by
 rintro⟨x1,x2⟩
 refine pT fu Y7 Tryz.func286 [.tmp 4] [23] [(ajZ fu).ct,(DZ fu).ct] [288,255] (λcp H=> ?_)
 obtain⟨H1,H2, -⟩:=H
 dsimp only
 unfold CQ
 have z0:=Da (aJ Y7.eq_1)
 exact Wk,Zi⟩
def Q7:TD:=zz [[4],[],[0,5,6,7,8,9,10,11,12,13,14,15],[],[17,18,19],[],[1,20,21,22]]
def Y8:=Da (aJ Q7.eq_1)
theorem arc:aN prog 287 Q7=some ⟨az Tryz.f287,[.tmp 4],[23]⟩:=fA Tryz.func287
def e287:Int->AV:=λr=> .v (.int .u32 r)
set_option maxHeartbeats 20000000 in
theorem aAH(cp:aC)(fu:Nat)(x1:Int)(x2:Bool)(H255_0: ∀ (a0:Bool) r,oD fu a0=some r→cp 255 [.v (.bool a0)]=some (.v (.int .u32 r))):J (go prog oQ cp fH 0 [] Q7 fu (fin prog [.tmp 4] [23]) (az Tryz.f287) (bW 0 [.v (.int .i64 x1),.v (.bool x2)]) [] []) (oC fu x1 x2) e287:=by
 unfold oC e287
 have da:=Y8
 refine J.chk λh1=> ?_
 conv=>arg 1;simp (disch:=first|exact Zd|fail) only[az,Tryz.f287,ZZ,Y8,simprocAttr,h1]
 refine J.Ls (λ(t:Unit)=>([(1,.v (.bool x2))],[])) (λt=>oC.k1 fu x2) ?_ (λhj1=> ?_)
 ·rintro⟨⟩
  show J _ (oC.k1 fu x2) _
  unfold oC.k1
  refine J.bind λx3 h2=> ?_
  have e_h2:=H255_0 _ _ h2
  try simp only[NN,NT,LN,simprocAttr,DT]at e_h2
  refine J.some ?_
  exact Js
 ·refine J.hd dB ?_
  refine J.eq gG ?_
  refine Jc ?_
  refine J.eq gq ?_
  refine Jc ?_
  refine J.S9 (t:=()) hj1 ?_ ?_
  ·exact Ze
  ·exact Zh
noncomputable def adv(fu:Nat):aC:=iI 255 (iU (λ(t:Bool)=>([.v (.bool t)]:List AV)) (λt=>oD fu t) (λr=> .v (.int .u32 r))) (nX)
theorem azJ(fu:Nat):aK prog (adv fu):=jO (oU) (jL (λt b h=>(DZ fu).ok t b h))
theorem avu(fu:Nat)(x1:Int)(x2:Bool)(r)(h:oC fu x1 x2=some r):bH prog 287 [.v (.int .i64 x1),.v (.bool x2)] (e287 r):=
  qg mixed (cp:=adv fu) (azJ fu) eY arc (aAH _ fu x1 x2 (λa0 r h=>jM (jK (a:=a0) (by intro a b h;first|(exact rfl)|(simp only[iY,IJ]at h;first|exact h|(simp_all [Prod.ext_iff]))) h))) h
def YY:TD:=[(0,[10]),(0,[]),(0,[21,22]),(0,[3,4,11]),(0,[24,25,26,27,28,29]),(0,[14,15,16,99,111]),(0,[30,31]),(0,[]),(0,[33,34,35,36,37,38]),(0,[]),(0,[39,40,41]),(0,[]),(0,[43,44]),(0,[]),(0,[45,46,47]),(0,[]),(0,[48,49,50,51,52]),(0,[]),(0,[]),(0,[]),(0,[53]),(0,[]),(0,[54,55,56]),(0,[]),(0,[57,58,59,60,61]),(0,[]),(0,[62,63,64]),(0,[]),(0,[65,66,67,68,69,70,71,72,73,74,75]),(0,[]),(0,[18,76,77,78,79,80,81,82]),(0,[]),(0,[17,83,84,85,86,87]),(0,[]),(0,[89,90]),(0,[]),(0,[91,92,93,94]),(0,[]),(0,[96,97,98]),(0,[]),(0,[]),(0,[]),(0,[]),(0,[]),(0,[100,101,102,103,104,105,106,107]),(0,[]),(0,[109,110]),(0,[]),(0,[112]),(0,[]),(0,[113]),(0,[]),(0,[114,115,116,117,118]),(0,[]),(0,[120,121]),(0,[]),(0,[2,12,122,123,124]),(0,[]),(0,[125]),(0,[]),(0,[127,128]),(0,[]),(0,[129]),(0,[]),(0,[131,132,133]),(0,[]),(0,[13,19,134,135,136,137,138,139]),(0,[]),(0,[140]),(0,[]),(0,[142,143,144]),(0,[]),(0,[0,1,20,145,146,147,148,149]),(0,[]),(0,[]),(0,[]),(0,[]),(0,[]),(0,[]),(0,[]),(0,[]),(0,[]),(0,[]),(0,[]),(0,[]),(0,[]),(0,[]),(0,[]),(0,[]),(0,[]),(0,[]),(0,[]),(0,[]),(0,[]),(0,[]),(0,[]),(0,[]),(0,[]),(0,[]),(0,[]),(0,[]),(0,[]),(0,[]),(0,[]),(0,[]),(0,[]),(0,[]),(0,[]),(0,[]),(0,[]),(0,[]),(0,[]),(0,[]),(0,[]),(0,[]),(0,[]),(0,[]),(0,[]),(0,[]),(0,[]),(0,[]),(0,[]),(0,[]),(0,[]),(0,[]),(0,[]),(0,[]),(0,[]),(0,[]),(0,[]),(0,[]),(0,[]),(0,[]),(0,[]),(0,[]),(0,[]),(0,[]),(0,[]),(0,[]),(0,[]),(0,[]),(0,[]),(0,[]),(0,[]),(0,[]),(0,[]),(0,[]),(0,[]),(0,[]),(0,[]),(0,[]),(0,[]),(0,[]),(0,[]),(0,[]),(0,[]),(0,[]),(0,[]),(0,[]),(0,[]),(0,[]),(0,[]),(0,[]),(0,[]),(0,[]),(0,[]),(0,[]),(0,[]),(0,[]),(0,[]),(0,[]),(0,[]),(0,[]),(0,[]),(0,[]),(0,[]),(0,[]),(0,[]),(0,[]),(0,[]),(0,[]),(0,[]),(0,[]),(0,[]),(0,[]),(0,[]),(0,[]),(0,[]),(0,[]),(0,[]),(0,[]),(0,[]),(0,[]),(0,[]),(0,[]),(0,[]),(0,[]),(0,[]),(0,[]),(0,[]),(0,[]),(0,[]),(0,[]),(0,[]),(0,[]),(0,[]),(0,[]),(0,[]),(0,[]),(0,[]),(0,[]),(0,[]),(0,[]),(0,[]),(0,[]),(0,[]),(0,[]),(0,[]),(0,[]),(0,[]),(0,[]),(0,[]),(0,[]),(1,[])]
noncomputable abbrev ajY(fu:Nat):Cm prog (Int×Bool) Int:=⟨287,λt=>[.v (.int .i64 t.1),.v (.bool t.2)],λt=>oC fu t.1 t.2,λr=> .v (.int .u32 r),λt b h=>avu fu t.1 t.2 b h,Zi⟩
def eG.j3:LJ 3 56 Unit Int:=⟨λr t e=>[(0,er e 0),(1,er e 1),(2,er e 2),(12,er e 12),(13,.v (.int .u64 t))],λr t h=>[]⟩
def eG.j4:LJ 4 30 Unit Bool:=⟨λr t e=>[(0,er e 0),(1,er e 1),(2,er e 2),(3,er e 3),(4,er e 4),(11,er e 11),(12,er e 12),(13,er e 13),(14,.v (.bool t)),(15,er e 15),(16,er e 16),(17,er e 17),(18,er e 18)],λr t h=>[]⟩
def eG.j2:LJ 2 42 Unit (Int×Bool×Bool×Bool):=⟨λr t e=>[(0,er e 0),(1,er e 1),(2,er e 2),(12,er e 12),(13,.v (.int .u64 t.1)),(14,.v (.bool t.2.1)),(15,.v (.bool t.2.2.1)),(16,.v (.bool t.2.2.2))],λr t h=>[]⟩
def eG.j1:LJ 1 16 Unit Unit:=⟨λr t e=>[(0,er e 0),(1,er e 1),(2,er e 2),(3,er e 3),(4,er e 4),(11,er e 11)],λr t h=>[]⟩
open eG in
noncomputable abbrev XL(fu:Nat):Cm prog (Int×Bool×Int×Int×Bool) Int:=⟨254,fun t=>[.v (.int .i64 t.1),.v (.bool t.2.1),.v (.int .i64 t.2.2.1),.v (.int .u64 t.2.2.2.1),.v (.bool t.2.2.2.2)],fun t=>eG fu t.1 t.2.1 t.2.2.1 t.2.2.2.1 t.2.2.2.2,fun r=> .v (.int .u32 r),by
 rintro⟨x1,x2,x3,x4,x5⟩
 refine pT fu YY Tryz.func254 [.tmp 10] [23] [(ajW fu).ct,(ajX fu).ct,(DZ fu).ct,(ajY fu).ct] [285,286,255,287] (λcp H=> ?_)
 obtain⟨H1,H2,H3,H4, -⟩:=H
 dsimp only
 unfold eG
 have z0:=Da (aJ YY.eq_1)
 exact Wk,Zi⟩
def YM:TD:=[(0,[6]),(0,[1,2]),(0,[14,15,16,17]),(0,[7,13]),(0,[19,20,21,22,23,24,25,26,27,28,29,30,31,32,33,34,35,36,37,38,39]),(0,[]),(0,[]),(0,[]),(0,[41,42]),(0,[]),(0,[43]),(0,[]),(0,[45,46]),(0,[]),(0,[47]),(0,[]),(0,[49,50,51,52,53,54,55,56]),(0,[]),(0,[57,58]),(0,[]),(0,[60]),(0,[]),(0,[61,62]),(0,[]),(0,[63,64,65,66]),(0,[]),(0,[68,69]),(0,[]),(0,[70,71,72,73,74]),(0,[]),(10,[75,76,77,78,79,80]),(0,[]),(0,[81]),(0,[]),(0,[83,84,85]),(0,[]),(0,[86,87]),(0,[]),(0,[88,89,90]),(0,[]),(0,[91,92,93,94,95]),(0,[]),(8,[96,97,98,99,100,101,102]),(0,[]),(0,[9,104,105,106,107,108]),(0,[]),(0,[109,110,111,112,113,114,115,116,117]),(0,[]),(0,[119]),(0,[]),(0,[120,121,122,123,124,125,126,127,128]),(0,[]),(0,[130,131,132]),(0,[]),(0,[133,134]),(0,[]),(0,[136,137,138]),(0,[]),(0,[139,140,141,142,143,144,145,146]),(0,[]),(0,[0,8,10,11,12,147,148,149,150,151,152,153,154])]
def jB.j3:LJ 3 3 Unit (Int×Int×Int×Bool):=⟨λr t e=>[(0,er e 0),(7,er e 7),(8,er e 8),(9,er e 9),(10,.v (.int .i64 t.1)),(11,.v (.int .u64 t.2.1)),(12,.v (.int .u64 t.2.2.1)),(13,.v (.bool t.2.2.2))],λr t h=>[((0,7,0),hr h (0,7,0)),((0,8,0),hr h (0,8,0))]⟩
def jB.j2:LJ 2 28 Unit (Bool×Int×Int×Bool×Int×Int):=⟨λr t e=>[(0,er e 0),(7,er e 7),(8,er e 8)],λr t h=>[((0,7,0),bs (bs (bs (hr h (0,7,0)) 0 (.v (.bool t.1))) 3 (.v (.int .i64 t.2.1))) 4 (.v (.int .u64 t.2.2.1))),((0,8,0),bs (bs (bs (hr h (0,8,0)) 0 (.v (.bool t.2.2.2.1))) 3 (.v (.int .i64 t.2.2.2.2.1))) 4 (.v (.int .u64 t.2.2.2.2.2)))]⟩
def jB.j1:LJ 1 24 Unit Unit:=⟨λr t e=>[(0,er e 0),(7,er e 7),(8,er e 8)],λr t h=>[((0,7,0),bs (bs (hr h (0,7,0)) 1 (.v (.bool false))) 2 (.v (.bool false))),((0,8,0),bs (bs (hr h (0,8,0)) 1 (.v (.bool false))) 2 (.v (.bool false)))]⟩
open jB in
noncomputable abbrev ajM(fu:Nat):Cm prog (Int×Int×Int) Int:=⟨212,fun t=>[.v (.int .i64 t.1),.v (.int .u32 t.2.1),.v (.int .u32 t.2.2)],fun t=>jB fu t.1 t.2.1 t.2.2,fun r=> .v (.int .u32 r),by
 rintro⟨x1,x2,x3⟩
 refine pT fu YM Tryz.func212 [.tmp 6] [23] [(XK fu).ct,(ajT fu).ct,(XL fu).ct] [252,253,254] (λcp H=> ?_)
 obtain⟨H1,H2,H3, -⟩:=H
 have F1: ∀ {a0:Int} {r},xJ fu a0=some r->cp 252 [.v (.int .u32 a0)]=some (.agg [.v (.bool r.fneg),.v (.bool r.fnan),.v (.bool r.finf),.v (.int .i64 r.fexp),.v (.int .u64 r.fsig)]):=λ {a0} {r} h=>(XK fu).at H1 a0 r h
 have F2: ∀ {a0:Int} {r},CP fu a0=some r->cp 253 [.v (.int .i64 a0)]=some (.v (.int .u32 r)):=λ {a0} {r} h=>(ajT fu).at H2 a0 r h
 have F3: ∀ {a0:Int} {a1:Bool} {a2:Int} {a3:Int} {a4:Bool} {r},eG fu a0 a1 a2 a3 a4=some r->cp 254 [.v (.int .i64 a0),.v (.bool a1),.v (.int .i64 a2),.v (.int .u64 a3),.v (.bool a4)]=some (.v (.int .u32 r)):=λ {a0} {a1} {a2} {a3} {a4} {r} h=>(XL fu).at H3 (a0,a1,a2,a3,a4) r h
 dsimp only
 unfold jB
 have z0:=Da (aJ YM.eq_1)
 exact Wk,Zi⟩
def Ym:TD:=zz [[4],[],[0,1,5,6,7]]
noncomputable abbrev XE(fu:Nat):Cm prog (Int×Int) Int:=⟨124,fun t=>[.v (.int .u32 t.1),.v (.int .u32 t.2)],fun t=>CJ fu t.1 t.2,fun r=> .v (.int .u32 r),by
 rintro⟨x1,x2⟩
 refine pT fu Ym Tryz.func124 [.tmp 4] [23] [(ajM fu).ct] [212] (λcp H=> ?_)
 obtain⟨H1, -⟩:=H
 unfold CJ
 have z0:=Da (aJ Ym.eq_1)
 exact Wk,Zi⟩
def YN:TD:=zz [[6],[],[1,2,10,11,12,13],[],[14,15,16,17,18],[],[20,21,22,23,24,25,26,27,28,29,30,31,32,33,34,35,36,37,38,39,40,41,42,43,44,45,46,47,48,49,50,51,52,53],[],[],[],[55,56,57,58,59,60],[],[61,62,63],[],[0,7,8,9,64,65,66,67,68,69,70,71,72,73,74,75,76]]
def uF.j1:LJ 1 14 Unit Unit:=⟨λr t e=>[(0,er e 0),(7,er e 7),(8,er e 8),(9,er e 9)],λr t h=>[((0,7,0),bs (bs (hr h (0,7,0)) 1 (.v (.bool false))) 2 (.v (.bool false))),((0,8,0),bs (bs (hr h (0,8,0)) 1 (.v (.bool false))) 2 (.v (.bool false)))]⟩
open uF in
noncomputable abbrev ajN(fu:Nat):Cm prog (Int×Int×Int) Int:=⟨213,fun t=>[.v (.int .i64 t.1),.v (.int .u32 t.2.1),.v (.int .u32 t.2.2)],fun t=>uF fu t.1 t.2.1 t.2.2,fun r=> .v (.int .u32 r),by
 rintro⟨x1,x2,x3⟩
 refine pT fu YN Tryz.func213 [.tmp 6] [23] [(XK fu).ct,(DZ fu).ct,(XL fu).ct] [252,255,254] (λcp H=> ?_)
 obtain⟨H1,H2,H3, -⟩:=H
 have F1: ∀ {a0:Int} {r},xJ fu a0=some r->cp 252 [.v (.int .u32 a0)]=some (.agg [.v (.bool r.fneg),.v (.bool r.fnan),.v (.bool r.finf),.v (.int .i64 r.fexp),.v (.int .u64 r.fsig)]):=λ {a0} {r} h=>(XK fu).at H1 a0 r h
 have F2: ∀ {a0:Bool} {r},oD fu a0=some r->cp 255 [.v (.bool a0)]=some (.v (.int .u32 r)):=λ {a0} {r} h=>(DZ fu).at H2 a0 r h
 have F3: ∀ {a0:Int} {a1:Bool} {a2:Int} {a3:Int} {a4:Bool} {r},eG fu a0 a1 a2 a3 a4=some r->cp 254 [.v (.int .i64 a0),.v (.bool a1),.v (.int .i64 a2),.v (.int .u64 a3),.v (.bool a4)]=some (.v (.int .u32 r)):=λ {a0} {a1} {a2} {a3} {a4} {r} h=>(XL fu).at H3 (a0,a1,a2,a3,a4) r h
 dsimp only
 unfold uF
 have z0:=Da (aJ YN.eq_1)
 exact Wk,Zi⟩
def Yn:TD:=zz [[4],[],[0,1,5,6,7]]
noncomputable abbrev XF(fu:Nat):Cm prog (Int×Int) Int:=⟨125,fun t=>[.v (.int .u32 t.1),.v (.int .u32 t.2)],fun t=>CO fu t.1 t.2,fun r=> .v (.int .u32 r),by
 rintro⟨x1,x2⟩
 refine pT fu Yn Tryz.func125 [.tmp 4] [23] [(ajN fu).ct] [213] (λcp H=> ?_)
 obtain⟨H1, -⟩:=H
 unfold CO
 have z0:=Da (aJ Yn.eq_1)
 exact Wk,Zi⟩
end Go.Av
