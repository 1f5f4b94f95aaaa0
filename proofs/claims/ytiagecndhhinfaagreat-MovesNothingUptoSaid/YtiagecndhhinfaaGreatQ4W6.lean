/- The walks of the plain functions. Made by a program of mine. Conditions: none. -/
import Derived.Test.YtiagecndhhinfaaGreatQ4W1
set_option linter.unusedVariables false
set_option linter.unusedSimpArgs false
set_option linter.defProp false
set_option maxRecDepth 20000
set_option maxHeartbeats 20000000
open Go Go.Proofs
open Tryz (prog)
namespace Go.Av
open Aw (wM wO wP Ba yG yH yI Bc yJ yK yL yM wQ yN yO yP yQ yR yS yT)
def d6:TD:=zz [[0],[],[4,5,6],[],[7,8,9,10,11,12],[],[13,14,15,16,17,18],[],[19,20,21,22,23,24],[],[1,25,26,27,28,29,30],[],[3,31]]
noncomputable abbrev X6(fu:Nat):Cm prog aj aj:=⟨6,fun t=>[.agg (bT t)],Ce fu,fun r=> .agg [.v (.int .i64 r.fType),.fresh 1 r.fDims.length (lm (ik .i64) r.fDims),.fresh 1 r.fF.length (lm (ik .u32) r.fF),.fresh 1 r.fI.length (lm (ik .i64) r.fI),.fresh 1 r.fB.length (lm (bk) r.fB)],by
 rintro x1
 refine pT fu d6 Tryz.func6 [.cell 2 28] [28] [] [] (λcp H=> ?_)
 unfold Ce
 have z0:=Da (aJ d6.eq_1)
 exact Wk,Zi⟩
def Yv:TD:=zz [[2],[],[0,3,4]]
noncomputable abbrev ajj(fu:Nat):Cm prog Int Int:=⟨172,fun t=>[.v (.int .u32 t)],MO fu,fun r=> .v (.int .u32 r),by
 rintro x1
 refine pT fu Yv Tryz.func172 [.tmp 2] [23] [] [] (λcp H=> ?_)
 unfold MO
 have z0:=Da (aJ Yv.eq_1)
 exact Wk,Zi⟩
def Zn:TD:=zz [[2],[],[0,3,4,5]]
noncomputable abbrev akc(fu:Nat):Cm prog Int Bool:=⟨76,fun t=>[.v (.int .u32 t)],MP fu,fun r=> .v (.bool r),by
 rintro x1
 refine pT fu Zn Tryz.func76 [.tmp 2] [4] [(ajj fu).ct] [172] (λcp H=> ?_)
 obtain⟨H1, -⟩:=H
 unfold MP
 have z0:=Da (aJ Zn.eq_1)
 exact Wk,Zi⟩
def Zb:TD:=zz [[2],[],[3],[],[],[],[0,5]]
noncomputable abbrev aj0(fu:Nat):Cm prog Int Int:=⟨32,fun t=>[.v (.int .u32 t)],E5 fu,fun r=> .v (.int .u32 r),by
 rintro x1
 refine pT fu Zb Tryz.func32 [.tmp 2] [23] [(akc fu).ct] [76] (λcp H=> ?_)
 obtain⟨H1, -⟩:=H
 unfold E5
 have z0:=Da (aJ Zb.eq_1)
 exact Wk,Zi⟩
def d12:TD:=[(0,[0]),(0,[4]),(0,[1,5,6]),(0,[]),(0,[]),(0,[]),(0,[7,8,9,10]),(0,[]),(0,[12,13]),(0,[]),(10,[14,15,16,17,18,19,20,21,22,23]),(0,[]),(0,[3,24])]
def qh.m1:LJ 1 6 Unit ((List Int)×Int):=⟨λr s e=>[(2,er e 2),(3,er e 3),(4,.v (.int .i64 s.2))],λr s h=>[((0,2,0),hr h (0,2,0)),((0,6,0),hr h (0,6,0)),((0,6,1),.sl true true 1 s.1.length (lm (ik .u32) s.1)),((0,6,2),hr h (0,6,2)),((0,6,3),hr h (0,6,3)),((0,3,0),bs (hr h (0,3,0)) 2 (.own (0,6,1) 0 s.1.length s.1.length))]⟩
open qh in
noncomputable abbrev ajc(fu:Nat):Cm prog aj aj:=⟨12,fun t=>[.agg (bT t)],qh fu,fun r=> .agg [.v (.int .i64 r.fType),.fresh 1 r.fDims.length (lm (ik .i64) r.fDims),.fresh 1 r.fF.length (lm (ik .u32) r.fF),.fresh 1 r.fI.length (lm (ik .i64) r.fI),.fresh 1 r.fB.length (lm (bk) r.fB)],by
 rintro x1
 refine pT fu d12 Tryz.func12 [.cell 2 28] [28] [(X6 fu).ct,(aj0 fu).ct] [6,32] (λcp H=> ?_)
 obtain⟨H1,H2, -⟩:=H
 unfold qh
 have z0:=Da (aJ d12.eq_1)
 exact Wk,Zi⟩
def Zc:TD:=[(0,[4]),(0,[0,1,5]),(0,[6,7,8,9]),(0,[]),(0,[]),(0,[]),(0,[]),(0,[]),(0,[11,12,13]),(0,[]),(0,[15,16]),(0,[]),(9,[17,18,19,20,21,22,23,24]),(0,[]),(0,[]),(0,[]),(0,[])]
def qG.m1:LJ 1 8 Unit Int:=⟨λr s e=>[(0,er e 0),(1,er e 1),(5,.v (.int .i64 s))],λr s h=>[]⟩
open qG in
noncomputable abbrev aj1(fu:Nat):Cm prog ((List Int)×(List Int)) Bool:=⟨33,fun t=>[.arr t.1.length (lm (ik .i64) t.1),.arr t.2.length (lm (ik .i64) t.2)],fun t=>qG fu t.1 t.2,fun r=> .v (.bool r),by
 rintro⟨x1,x2⟩
 refine pT fu Zc Tryz.func33 [.tmp 4] [4] [] [] (λcp H=> ?_)
 unfold qG
 have z0:=Da (aJ Zc.eq_1)
 exact Wk,Zi⟩
def d13:TD:=[(0,[0,1,4]),(0,[5]),(0,[8,9,10,11,12,13,14,15,16,17,18,19,20,21,22,23,24,25,26,27,28,29,30,31,32,33,34,35,36,37,38,39,40,41,42,43,44,45,46]),(0,[]),(0,[]),(0,[6]),(0,[]),(0,[]),(0,[48,49,50,51]),(0,[2,3,7]),(0,[53,54]),(0,[]),(11,[55,56,57,58,59,60,61,62,63,64]),(0,[]),(0,[]),(0,[]),(0,[]),(0,[]),(0,[66,67,68,69]),(0,[]),(0,[71,72]),(0,[]),(11,[73,74,75,76,77,78,79,80,81,82]),(0,[]),(0,[]),(0,[]),(0,[]),(0,[]),(0,[84,85,86,87]),(0,[]),(0,[89,90]),(0,[]),(11,[91,92,93,94,95,96,97,98,99,100]),(0,[]),(0,[]),(0,[]),(0,[])]
def dZ.m1:LJ 1 28 Unit Int:=⟨λr s e=>[(2,er e 2),(3,er e 3),(7,.v (.int .i64 s))],λr s h=>[((0,2,0),hr h (0,2,0)),((0,3,0),hr h (0,3,0))]⟩
def dZ.m2:LJ 2 18 Unit Int:=⟨λr s e=>[(2,er e 2),(3,er e 3),(6,.v (.int .i64 s))],λr s h=>[((0,2,0),hr h (0,2,0)),((0,3,0),hr h (0,3,0))]⟩
def dZ.j3:LJ 3 26 Unit Unit:=⟨λr t e=>[(2,er e 2),(3,er e 3)],λr t h=>[((0,2,0),hr h (0,2,0)),((0,3,0),hr h (0,3,0))]⟩
def dZ.m3:LJ 3 8 Unit Int:=⟨λr s e=>[(2,er e 2),(3,er e 3),(5,.v (.int .i64 s))],λr s h=>[((0,2,0),hr h (0,2,0)),((0,3,0),hr h (0,3,0))]⟩
def dZ.j2:LJ 2 16 Unit Unit:=⟨λr t e=>[(2,er e 2),(3,er e 3)],λr t h=>[((0,2,0),hr h (0,2,0)),((0,3,0),hr h (0,3,0))]⟩
def dZ.j1:LJ 1 6 Unit Unit:=⟨λr t e=>[(2,er e 2),(3,er e 3)],λr t h=>[((0,2,0),hr h (0,2,0)),((0,3,0),hr h (0,3,0))]⟩
open dZ in
noncomputable abbrev ajg(fu:Nat):Cm prog (aj×aj) Bool:=⟨13,fun t=>[.agg (bT t.1),.agg (bT t.2)],fun t=>dZ fu t.1 t.2,fun r=> .v (.bool r),by
 rintro⟨x1,x2⟩
 refine pT fu d13 Tryz.func13 [.tmp 4] [4] [(aj1 fu).ct] [33] (λcp H=> ?_)
 obtain⟨H1, -⟩:=H
 unfold dZ
 have z0:=Da (aJ d13.eq_1)
 exact Wk,Zi⟩
def Yr:TD:=zz [[2,3],[6],[],[],[9,10,11],[0,8],[],[],[12,13,14],[],[16,17],[],[18,19,20,21],[],[],[],[23,24,25,26,27,28,29,30],[],[31,32,33,34,35,36,37,38],[],[5],[],[],[],[4],[],[],[],[],[],[],[],[41,42,43],[],[45,46],[],[47,48,49,50,51,52,53,54,55,56,57,58,59],[],[],[],[61,62,63,64,65,66],[],[7,67]]
def gp.j2:LJ 2 40 Unit Unit:=⟨λr t e=>[(0,er e 0),(7,er e 7),(8,er e 8)],λr t h=>[]⟩
def gp.m1:LJ 1 32 Unit (Int×Int):=⟨λr s e=>[(0,er e 0),(7,.v (.int .i64 s.1)),(8,.v (.int .i64 s.2))],λr s h=>[]⟩
def gp.j3:LJ 3 18 Unit Bool:=⟨λr t e=>[(0,er e 0),(4,.v (.bool t)),(5,er e 5),(6,er e 6)],λr t h=>[]⟩
def gp.m2:LJ 2 8 Unit (Bool×Bool×Int):=⟨λr s e=>[(0,er e 0),(4,.v (.bool s.1)),(5,.v (.bool s.2.1)),(6,.v (.int .i64 s.2.2))],λr s h=>[]⟩
def gp.j1:LJ 1 20 Unit (Bool×Bool):=⟨λr t e=>[(0,er e 0),(4,.v (.bool t.1)),(5,.v (.bool t.2))],λr t h=>[]⟩
open gp in
noncomputable abbrev aji(fu:Nat):Cm prog (List Int) (Int×Int):=⟨14,fun t=>[.arr t.length (lm (ik .i64) t)],gp fu,fun r=> .tuple [.v (.int .i64 r.1),.v (.int .i64 r.2)],by
 rintro x1
 refine pT fu Yr Tryz.func14 [.tmp 2,.tmp 3] [3,34] [] [] (λcp H=> ?_)
 unfold gp
 have z0:=Da (aJ Yr.eq_1)
 exact Wk,Zi⟩
end Go.Av
