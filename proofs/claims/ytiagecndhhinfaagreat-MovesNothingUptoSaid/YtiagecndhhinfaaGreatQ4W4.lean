/- The walks of the plain functions. Made by a program of mine. Conditions: none. -/
import Derived.Test.YtiagecndhhinfaaGreatQ4W2
import Derived.Test.YtiagecndhhinfaaGreatQ4W3
import Derived.Test.YtiagecndhhinfaaGreatQ4W5
import Derived.Test.YtiagecndhhinfaaGreatQ4W6
set_option linter.unusedVariables false
set_option linter.unusedSimpArgs false
set_option linter.defProp false
set_option maxRecDepth 20000
set_option maxHeartbeats 20000000
open Go Go.Proofs
open Tryz (prog)
namespace Go.Av
open Aw (wM wO wP Ba yG yH yI Bc yJ yK yL yM wQ yN yO yP yQ yR yS yT)
def Zp:TD:=[(0,[1,8,9]),(0,[25,26,27]),(0,[18,19]),(0,[]),(0,[]),(0,[]),(0,[21,22,23,24,41005000010]),(0,[]),(0,[]),(0,[]),(0,[]),(0,[]),(0,[29,30]),(0,[]),(0,[31,32]),(0,[]),(0,[34,35]),(0,[]),(0,[36]),(0,[]),(0,[38]),(0,[]),(1008,[12,13,39,40,41,42,43,44,45,46,47,48,49]),(0,[]),(0,[50]),(0,[]),(11,[2,3,51,52,53,54,55,56,57,58,59]),(0,[]),(0,[60]),(0,[]),(0,[62]),(0,[]),(0,[15,63,64,65,66,67,68,69,70,71]),(0,[]),(23384026197294446691298571404717660483291694666880,[5,72,73,74,75,76,77,78,79,80,81,82,83,84,85,86]),(0,[]),(0,[1000016]),(0,[]),(0,[87,88,89,90,91,92,93,94,95]),(0,[]),(0,[17]),(0,[]),(0,[97,98,99,100,101]),(0,[]),(0,[17,102]),(0,[]),(0,[]),(0,[]),(0,[0,104]),(0,[]),(0,[106,107,108]),(0,[]),(0,[10,14,16,109,110,111,112,113,114,115,116])]
def dW.m1:LJ 1 10 Unit ((List aj)×Int):=⟨λr s e=>[(0,er e 0),(2,er e 2),(3,er e 3),(5,er e 5),(10,er e 10),(25,er e 25),(26,er e 26),(27,.v (.int .i64 s.2))],λr s h=>[((0,5,0),hr h (0,5,0)),((0,24,0),bs (hr h (0,24,0)) 37 (.own (0,10,115) 0 s.1.length s.1.length)),((0,10,115),.sl true true 5 s.1.length (fm bT s.1))]⟩
def dW.j1:LJ 1 26 Unit (List aj):=⟨λr t e=>[(0,er e 0),(2,er e 2),(3,er e 3),(5,er e 5),(10,er e 10)],λr t h=>[((0,5,0),hr h (0,5,0)),((0,24,0),bs (hr h (0,24,0)) 37 (.own (0,10,115) 0 t.length t.length)),((0,10,115),.sl true true 5 t.length (fm bT t))]⟩
set_option maxHeartbeats 400000000 in
open dW in
noncomputable abbrev akg(fu:Nat):Cm prog (Int×dh×(List aj)×Int) ((List aj)×Int):=⟨7,fun t=>[.v (.int .i64 t.1),.agg (mZ t.2.1),.arr t.2.2.1.length (fm bT t.2.2.1),.v (.int .i64 t.2.2.2)],fun t=>dW fu t.1 t.2.1 t.2.2.1 t.2.2.2,fun r=> .tuple [.arr r.1.length (fm bT r.1),.v (.int .i64 r.2)],by
 rintro⟨x1,x2,x3,x4⟩
 refine uA fu Zp Tryz.func7 [.tmp 8,.tmp 9] [31,34] [(Hm fu).ct,(wJ fu).ct,(AZ fu).ct,(Hr fu).ct,(Ho fu).ct,(uf fu).ct,(Ht fu).ct,(XJ fu).ct,(XI fu).ct] [10,17,18,20,19,21,22,24,23] (λcp H=> ?_)
 obtain⟨H1,H2,H3,H4,H5,H6,H7,H8,H9, -⟩:=H
 have F1: ∀ {a0:Int} {r},ut fu a0=some r->cp 10 [.v (.int .i64 a0)]=some (.v (.bool r)):=λ {a0} {r} h=>(Hm fu).at H1 a0 r h
 have F2: ∀ {a0:aj} {r},jY fu a0=some r->cp 17 [.agg (bT a0)]=some (.v (.int .i64 r)):=λ {a0} {r} h=>(wJ fu).at H2 a0 r h
 have F3: ∀ {a0:aj} {r},jI fu a0=some r->cp 18 [.agg (bT a0)]=some (.agg [.v (.int .i64 r.fType),.fresh 1 r.fDims.length (lm (ik .i64) r.fDims),.fresh 1 r.fF.length (lm (ik .u32) r.fF),.fresh 1 r.fI.length (lm (ik .i64) r.fI),.fresh 1 r.fB.length (lm (bk) r.fB)]):=λ {a0} {r} h=>(AZ fu).at H3 a0 r h
 have F4: ∀ {a0:List aj} {r},lX fu a0=some r->cp 20 [.arr a0.length (fm bT a0)]=some (.arr r.length (fm dE r)):=λ {a0} {r} h=>(Hr fu).at H4 a0 r h
 have F5: ∀ {a0:Int} {a1:dh} {a2:List aP} {a3:Int} {r},kP fu a0 a1 a2 a3=some r->cp 19 [.v (.int .i64 a0),.agg (mZ a1),.arr a2.length (fm dE a2),.v (.int .i64 a3)]=some (.tuple [.arr r.1.length (fm dE r.1),.v (.int .i64 r.2)]):=λ {a0} {a1} {a2} {a3} {r} h=>(Ho fu).at H5 (a0,a1,a2,a3) r h
 have F6: ∀ {a0:Int} {a1:Int} {r},og fu a0 a1=some r->cp 21 [.v (.int .i64 a0),.v (.int .i64 a1)]=some (.tuple [.v (.int .i64 r.1),.v (.int .i64 r.2)]):=λ {a0} {a1} {r} h=>(uf fu).at H6 (a0,a1) r h
 have F7: ∀ {a0:aV} {r},jX fu a0=some r->cp 22 [.ay (dJ a0) 0]=some (.tuple [.fresh 1 r.1.length (lm (ik .i64) r.1),.v (.bool r.2)]):=λ {a0} {r} h=>(Ht fu).at H7 a0 r h
 have F8: ∀ {a0:aV} {a1:List Int} {a2:List Int} {r},eX fu a0 a1 a2=some r->cp 24 [.ay (dJ a0) 0,.arr a1.length (lm (ik .i64) a1),.arr a2.length (lm (ik .i64) a2)]=some (.agg [.v (.int .i64 r.fType),.arr r.fDims.length (lm (ik .i64) r.fDims),.arr r.fF.length (lm (ik .u32) r.fF),.arr r.fI.length (lm (ik .i64) r.fI),.arr r.fB.length (lm (bk) r.fB)]):=λ {a0} {a1} {a2} {r} h=>(XJ fu).at H8 (a0,a1,a2) r h
 have F9: ∀ {a0:aV} {a1:List aP} {r},pX fu a0 a1=some r->cp 23 [.ay (dJ a0) 0,.arr a1.length (fm dE a1)]=some (.arr r.length (fm bT r)):=λ {a0} {a1} {r} h=>(XI fu).at H9 (a0,a1) r h
 unfold dW
 have z0:=Da (aJ Zp.eq_1)
 have z1:=SE
 have z2:=RL
 exact Wk,Zi⟩
def Zq:TD:=[(0,[1,8,9]),(0,[25,26,27]),(0,[18,19]),(0,[]),(0,[]),(0,[]),(0,[21,22,23,24,41505000010]),(0,[]),(0,[]),(0,[]),(0,[]),(0,[]),(0,[29,30]),(0,[]),(0,[31,32]),(0,[]),(0,[34,35]),(0,[]),(0,[36]),(0,[]),(0,[38]),(0,[]),(1008,[12,13,39,40,41,42,43,44,45,46,47,48,49]),(0,[]),(0,[50]),(0,[]),(11,[2,3,51,52,53,54,55,56,57,58,59]),(0,[]),(0,[60]),(0,[]),(0,[62]),(0,[]),(0,[15,63,64,65,66,67,68,69,70,71]),(0,[]),(23384026197294446691298571404717660483291694666880,[5,72,73,74,75,76,77,78,79,80,81,82,83,84,85,86]),(0,[]),(0,[]),(0,[]),(0,[87,88,89,90,91,92,93,94,95]),(0,[]),(0,[17]),(0,[]),(0,[97,98,99,100,101]),(0,[]),(0,[17,102]),(0,[]),(0,[]),(0,[]),(0,[0,104]),(0,[]),(0,[106,107,108]),(0,[]),(0,[10,14,16,109,110,111,112,113,114,115,116])]
def fZ.m1:LJ 1 6 Unit ((List Int)×(List Int)×(List Bool)×Int):=⟨λr s e=>[(0,er e 0),(4,er e 4),(5,er e 5),(6,er e 6),(21,er e 21),(22,er e 22),(23,.v (.int .i64 s.2.2.2))],λr s h=>[((0,24,0),hr h (0,24,0)),((0,10,115),hr h (0,10,115)),((0,45,0),hr h (0,45,0)),((0,45,1),.sl true true 1 (hx h (0,45,1)) (lm (ik .u32) s.1)),((0,45,2),.sl true true 1 (hx h (0,45,2)) (lm (ik .i64) s.2.1)),((0,45,3),.sl true true 1 (hx h (0,45,3)) (lm (bk) s.2.2.1)),((0,45,100),hr h (0,45,100)),((0,45,101),hr h (0,45,101)),((0,45,102),hr h (0,45,102)),((0,45,103),hr h (0,45,103)),((0,45,200),hr h (0,45,200)),((0,45,201),hr h (0,45,201)),((0,45,202),hr h (0,45,202)),((0,45,203),hr h (0,45,203)),((0,99,0),hr h (0,99,0)),((1,6,0),hr h (1,6,0)),((2,4,0),hr h (2,4,0)),((2,5,0),hr h (2,5,0)),((2,6,0),hr h (2,6,0)),((2,21,0),hr h (2,21,0))]⟩
def fZ.j2:LJ 2 48 Unit (List Int):=⟨λr t e=>[(0,er e 0),(10,er e 10),(14,er e 14),(16,.own (0,99,0) 0 t.length t.length)],λr t h=>[((0,24,0),hr h (0,24,0)),((0,10,115),hr h (0,10,115)),((0,45,0),hr h (0,45,0)),((0,45,1),hr h (0,45,1)),((0,45,2),hr h (0,45,2)),((0,45,3),hr h (0,45,3)),((0,45,100),hr h (0,45,100)),((0,45,101),hr h (0,45,101)),((0,45,102),hr h (0,45,102)),((0,45,103),hr h (0,45,103)),((0,45,200),hr h (0,45,200)),((0,45,201),hr h (0,45,201)),((0,45,202),hr h (0,45,202)),((0,45,203),hr h (0,45,203)),((0,99,0),.sl true true 1 t.length (lm (ik .i64) t))]⟩
def fZ.j5:LJ 5 22 Unit Int:=⟨λr t e=>[(0,er e 0),(2,er e 2),(3,er e 3),(5,er e 5),(10,er e 10),(12,er e 12),(13,.v (.int .i64 t)),(25,er e 25),(26,er e 26),(27,er e 27)],λr t h=>[((0,5,0),hr h (0,5,0)),((0,24,0),hr h (0,24,0)),((0,10,115),hr h (0,10,115)),((0,45,0),hr h (0,45,0)),((0,45,1),hr h (0,45,1)),((0,45,2),hr h (0,45,2)),((0,45,3),hr h (0,45,3)),((0,45,100),hr h (0,45,100)),((0,45,101),hr h (0,45,101)),((0,45,102),hr h (0,45,102)),((0,45,103),hr h (0,45,103)),((0,12,0),hr h (0,12,0))]⟩
def fZ.j4:LJ 4 22 Unit Int:=⟨λr t e=>[(0,er e 0),(2,er e 2),(3,er e 3),(5,er e 5),(10,er e 10),(12,er e 12),(13,.v (.int .i64 t)),(25,er e 25),(26,er e 26),(27,er e 27)],λr t h=>[((0,5,0),hr h (0,5,0)),((0,24,0),hr h (0,24,0)),((0,10,115),hr h (0,10,115)),((0,45,0),hr h (0,45,0)),((0,45,1),hr h (0,45,1)),((0,45,2),hr h (0,45,2)),((0,45,3),hr h (0,45,3)),((0,12,0),hr h (0,12,0))]⟩
def fZ.j3:LJ 3 22 Unit Int:=⟨λr t e=>[(0,er e 0),(2,er e 2),(3,er e 3),(5,er e 5),(10,er e 10),(12,er e 12),(13,.v (.int .i64 t)),(25,er e 25),(26,er e 26),(27,er e 27)],λr t h=>[((0,5,0),hr h (0,5,0)),((0,24,0),hr h (0,24,0)),((0,10,115),hr h (0,10,115)),((0,12,0),hr h (0,12,0))]⟩
def fZ.j1:LJ 1 26 Unit (Int×Int×Int×(List Int)×(List Int)×(List Int)×(List Bool)×(List Int)×(List Int)×(List Int)×(List Bool)×(List Int)×(List Int)×(List Int)×(List Bool)):=⟨λr t e=>[(0,er e 0),(2,er e 2),(3,er e 3),(5,er e 5),(10,er e 10)],λr t h=>[((0,5,0),hr h (0,5,0)),((0,24,0),bs (hr h (0,24,0)) 37 (.own (0,10,115) 0 3 3)),((0,10,115),.sl false true 5 3 ([.v (.int .i64 t.1),.own (0,45,0) 0 t.2.2.2.1.length t.2.2.2.1.length,.own (0,45,1) 0 t.2.2.2.2.1.length t.2.2.2.2.1.length,.own (0,45,2) 0 t.2.2.2.2.2.1.length t.2.2.2.2.2.1.length,.own (0,45,3) 0 t.2.2.2.2.2.2.1.length t.2.2.2.2.2.2.1.length,.v (.int .i64 t.2.1),.own (0,45,100) 0 t.2.2.2.2.2.2.2.1.length t.2.2.2.2.2.2.2.1.length,.own (0,45,101) 0 t.2.2.2.2.2.2.2.2.1.length t.2.2.2.2.2.2.2.2.1.length,.own (0,45,102) 0 t.2.2.2.2.2.2.2.2.2.1.length t.2.2.2.2.2.2.2.2.2.1.length,.own (0,45,103) 0 t.2.2.2.2.2.2.2.2.2.2.1.length t.2.2.2.2.2.2.2.2.2.2.1.length,.v (.int .i64 t.2.2.1),.own (0,45,200) 0 t.2.2.2.2.2.2.2.2.2.2.2.1.length t.2.2.2.2.2.2.2.2.2.2.2.1.length,.own (0,45,201) 0 t.2.2.2.2.2.2.2.2.2.2.2.2.1.length t.2.2.2.2.2.2.2.2.2.2.2.2.1.length,.own (0,45,202) 0 t.2.2.2.2.2.2.2.2.2.2.2.2.2.1.length t.2.2.2.2.2.2.2.2.2.2.2.2.2.1.length,.own (0,45,203) 0 t.2.2.2.2.2.2.2.2.2.2.2.2.2.2.length t.2.2.2.2.2.2.2.2.2.2.2.2.2.2.length])),((0,45,0),.sl true true 1 t.2.2.2.1.length (lm (ik .i64) t.2.2.2.1)),((0,45,1),.sl true true 1 t.2.2.2.2.1.length (lm (ik .u32) t.2.2.2.2.1)),((0,45,2),.sl true true 1 t.2.2.2.2.2.1.length (lm (ik .i64) t.2.2.2.2.2.1)),((0,45,3),.sl true true 1 t.2.2.2.2.2.2.1.length (lm (bk) t.2.2.2.2.2.2.1)),((0,45,100),.sl true true 1 t.2.2.2.2.2.2.2.1.length (lm (ik .i64) t.2.2.2.2.2.2.2.1)),((0,45,101),.sl true true 1 t.2.2.2.2.2.2.2.2.1.length (lm (ik .u32) t.2.2.2.2.2.2.2.2.1)),((0,45,102),.sl true true 1 t.2.2.2.2.2.2.2.2.2.1.length (lm (ik .i64) t.2.2.2.2.2.2.2.2.2.1)),((0,45,103),.sl true true 1 t.2.2.2.2.2.2.2.2.2.2.1.length (lm (bk) t.2.2.2.2.2.2.2.2.2.2.1)),((0,45,200),.sl true true 1 t.2.2.2.2.2.2.2.2.2.2.2.1.length (lm (ik .i64) t.2.2.2.2.2.2.2.2.2.2.2.1)),((0,45,201),.sl true true 1 t.2.2.2.2.2.2.2.2.2.2.2.2.1.length (lm (ik .u32) t.2.2.2.2.2.2.2.2.2.2.2.2.1)),((0,45,202),.sl true true 1 t.2.2.2.2.2.2.2.2.2.2.2.2.2.1.length (lm (ik .i64) t.2.2.2.2.2.2.2.2.2.2.2.2.2.1)),((0,45,203),.sl true true 1 t.2.2.2.2.2.2.2.2.2.2.2.2.2.2.length (lm (bk) t.2.2.2.2.2.2.2.2.2.2.2.2.2.2))]⟩
noncomputable def Gn(cp:aC)(fu:Nat):bz:=iE prog (jb [24,54]) cp fH fu 54 Bd ⟨PK,[.cell 4 28],[28]⟩ fH
theorem Ve{cp:aC}{fu:Nat}(ok:aK prog cp):eH prog (Gn cp fu):=je mixed ok eY i54 eY
noncomputable def N9(cp:aC)(fu:Nat):bz:=iE prog (jb [24,54]) cp (Gn cp fu) fu 24 wQ ⟨GX,[.cell 6 28],[28]⟩ (Gn cp fu)
theorem aec{cp:aC}{fu:Nat}(ok:aK prog cp):eH prog (N9 cp fu):=je mixed ok (Ve ok) aq1 (Ve ok)
set_option maxHeartbeats 400000000 in
open fZ in
noncomputable abbrev akh(fu:Nat):Cm prog (Int×dh×(List aj)×Int) ((List aj)×Int):=⟨7,fun t=>[.v (.int .i64 t.1),.agg (mZ t.2.1),.arr t.2.2.1.length (fm bT t.2.2.1),.v (.int .i64 t.2.2.2)],fun t=>fZ fu t.1 t.2.1 t.2.2.1 t.2.2.2,fun r=> .tuple [.arr r.1.length (fm bT r.1),.v (.int .i64 r.2)],by
 rintro⟨x1,x2,x3,x4⟩
 refine zG fu (jb [24,54]) (λcp=>(N9 cp fu)) (λcp ok=>aec ok) Zq Tryz.func7 [.tmp 8,.tmp 9] [31,34] [(Hm fu).ct,(wJ fu).ct,(AZ fu).ct,(Hr fu).ct,(Ho fu).ct,(uf fu).ct,(Ht fu).ct,(Hw fu).ct,(XE fu).ct,(XF fu).ct] [10,17,18,20,19,21,22,53,124,125] (λcp H=> ?_)
 obtain⟨H1,H2,H3,H4,H5,H6,H7,H8,H9,H10, -⟩:=H
 have F1: ∀ {a0:Int} {r},ut fu a0=some r->cp 10 [.v (.int .i64 a0)]=some (.v (.bool r)):=λ {a0} {r} h=>(Hm fu).at H1 a0 r h
 have F2: ∀ {a0:aj} {r},jY fu a0=some r->cp 17 [.agg (bT a0)]=some (.v (.int .i64 r)):=λ {a0} {r} h=>(wJ fu).at H2 a0 r h
 have F3: ∀ {a0:aj} {r},jI fu a0=some r->cp 18 [.agg (bT a0)]=some (.agg [.v (.int .i64 r.fType),.fresh 1 r.fDims.length (lm (ik .i64) r.fDims),.fresh 1 r.fF.length (lm (ik .u32) r.fF),.fresh 1 r.fI.length (lm (ik .i64) r.fI),.fresh 1 r.fB.length (lm (bk) r.fB)]):=λ {a0} {r} h=>(AZ fu).at H3 a0 r h
 have F4: ∀ {a0:List aj} {r},lX fu a0=some r->cp 20 [.arr a0.length (fm bT a0)]=some (.arr r.length (fm dE r)):=λ {a0} {r} h=>(Hr fu).at H4 a0 r h
 have F5: ∀ {a0:Int} {a1:dh} {a2:List aP} {a3:Int} {r},kP fu a0 a1 a2 a3=some r->cp 19 [.v (.int .i64 a0),.agg (mZ a1),.arr a2.length (fm dE a2),.v (.int .i64 a3)]=some (.tuple [.arr r.1.length (fm dE r.1),.v (.int .i64 r.2)]):=λ {a0} {a1} {a2} {a3} {r} h=>(Ho fu).at H5 (a0,a1,a2,a3) r h
 have F6: ∀ {a0:Int} {a1:Int} {r},og fu a0 a1=some r->cp 21 [.v (.int .i64 a0),.v (.int .i64 a1)]=some (.tuple [.v (.int .i64 r.1),.v (.int .i64 r.2)]):=λ {a0} {a1} {r} h=>(uf fu).at H6 (a0,a1) r h
 have F7: ∀ {a0:aV} {r},jX fu a0=some r->cp 22 [.ay (dJ a0) 0]=some (.tuple [.fresh 1 r.1.length (lm (ik .i64) r.1),.v (.bool r.2)]):=λ {a0} {r} h=>(Ht fu).at H7 a0 r h
 have F8: ∀ {a0:aV} {a1:List Int} {r},iO fu a0 a1=some r->cp 53 [.ay (dJ a0) 0,.arr a1.length (lm (ik .i64) a1)]=some (.fresh 1 r.length (lm (ik .i64) r)):=λ {a0} {a1} {r} h=>(Hw fu).at H8 (a0,a1) r h
 have F9: ∀ {a0:Int} {a1:Int} {r},CJ fu a0 a1=some r->cp 124 [.v (.int .u32 a0),.v (.int .u32 a1)]=some (.v (.int .u32 r)):=λ {a0} {a1} {r} h=>(XE fu).at H9 (a0,a1) r h
 have F10: ∀ {a0:Int} {a1:Int} {r},CO fu a0 a1=some r->cp 125 [.v (.int .u32 a0),.v (.int .u32 a1)]=some (.v (.int .u32 r)):=λ {a0} {a1} {r} h=>(XF fu).at H10 (a0,a1) r h
 dsimp only
 unfold fZ N9 Gn
 have z0:=Da (aJ Zq.eq_1)
 have z1:=SE
 have z2:=wkl
 have z3:=RU3
 have z4:=RL
 have z5:=aly
 have z6:=Tryz.f24.eq_1
 have z7:= @apw
 have z8:=alC
 have z9:=Tryz.f54.eq_1
 have z10:= @apB
 have z11:=RI
 have z12:=ed
 have z13:= @az.eq_1
 exact Wk,Zi⟩
noncomputable abbrev cc7(fu:Nat):Cm prog (Int×dh×(List aj)×Int) ((List aj)×Int):=⟨7,fun t=>[.v (.int .i64 t.1),.agg (mZ t.2.1),.arr t.2.2.1.length (fm bT t.2.2.1),.v (.int .i64 t.2.2.2)],fun t=>zu fu t.1 t.2.1 t.2.2.1 t.2.2.2,fun r=> .tuple [.arr r.1.length (fm bT r.1),.v (.int .i64 r.2)],fun t b h=>by
 unfold zu at h
 cases hg:dW fu t.1 t.2.1 t.2.2.1 t.2.2.2 with
 |some r=>rw[hg]at h;exact(akg fu).ok t b (by rw[← h];exact hg)
 |none=>rw[hg]at h;exact(akh fu).ok t b h,Zi⟩
def d4:TD:=[(0,[1,6]),(0,[42,44,62]),(0,[17]),(0,[10,12]),(0,[4,18,19,20,21,22,23,24]),(0,[]),(0,[9,25,26,27,28,29,30,31,32,33,34,35]),(0,[14]),(0,[37]),(0,[]),(0,[2,38,39,40,41]),(0,[]),(0,[0]),(0,[]),(0,[43]),(0,[]),(0,[45]),(0,[]),(0,[46]),(0,[]),(0,[47]),(0,[]),(0,[48]),(0,[]),(0,[49,50,51,52]),(0,[]),(0,[53,54,55]),(0,[]),(0,[11,56,57,58,59,60,61]),(0,[]),(0,[63]),(0,[]),(0,[64]),(0,[]),(0,[65]),(0,[]),(0,[66]),(0,[]),(0,[67]),(0,[]),(0,[68]),(0,[]),(0,[69]),(0,[]),(0,[]),(0,[]),(0,[70,71,72,73,74,75]),(0,[]),(0,[77,78]),(0,[]),(0,[]),(0,[]),(0,[]),(0,[]),(0,[79,80,81,82]),(0,[]),(0,[84,85]),(0,[]),(17,[86,87,88,89,90,91,92,93,94,95,96,97,98,99,100,101]),(0,[]),(0,[13,102]),(0,[]),(0,[]),(0,[]),(0,[104,105,106,107,108,109,110,111]),(0,[]),(27,[7,8,15,16,112,113,114,115,116,117,118,119,120,121,122,123,124,125,126,127,128,129,130,131,132,133,134,135,136,137]),(0,[]),(0,[]),(0,[]),(0,[]),(0,[]),(0,[]),(0,[]),(0,[]),(0,[]),(0,[]),(0,[]),(0,[]),(0,[]),(0,[]),(0,[]),(0,[]),(0,[]),(0,[]),(0,[]),(0,[]),(0,[]),(0,[]),(1,[]),(0,[]),(0,[]),(0,[]),(0,[]),(0,[]),(0,[]),(0,[]),(0,[]),(0,[]),(0,[]),(0,[]),(0,[]),(0,[]),(0,[]),(0,[]),(0,[]),(0,[]),(0,[]),(0,[]),(0,[]),(0,[]),(0,[]),(0,[]),(0,[]),(0,[]),(0,[]),(0,[]),(0,[]),(0,[]),(0,[]),(0,[]),(0,[]),(0,[]),(0,[]),(0,[]),(1,[])]
noncomputable def C5:Cm prog Unit Bool:=⟨5,λ_=>[],λ_=>some true,λb=> .v (.bool b),λ_ b h=>by injection h with h;subst h;exact ahv,λ_ _ _=>rfl⟩
def cZ.m2:LJ 2 54 Unit (Bool×Int):=⟨λr s e=>[(7,er e 7),(8,er e 8),(10,er e 10),(12,er e 12),(13,.v (.bool s.1)),(14,.v (.int .i64 s.2))],λr s h=>[((0,41,0),hr h (0,41,0)),((0,41,1),hr h (0,41,1)),((0,41,2),hr h (0,41,2)),((0,41,3),hr h (0,41,3)),((0,10,0),hr h (0,10,0))]⟩
def cZ.j4:LJ 4 60 Unit Bool:=⟨λr t e=>[(7,er e 7),(8,er e 8),(10,er e 10),(12,er e 12),(13,.v (.bool t))],λr t h=>[((0,41,0),hr h (0,41,0)),((0,41,1),hr h (0,41,1)),((0,41,2),hr h (0,41,2)),((0,41,3),hr h (0,41,3)),((0,10,0),hr h (0,10,0))]⟩
def cZ.m1:LJ 1 46 Unit Int:=⟨λr s e=>[(7,er e 7),(8,er e 8),(10,er e 10),(12,.v (.int .i64 s))],λr s h=>[((0,41,0),hr h (0,41,0)),((0,41,1),hr h (0,41,1)),((0,41,2),hr h (0,41,2)),((0,41,3),hr h (0,41,3)),((0,10,0),hr h (0,10,0))]⟩
def cZ.j3:LJ 3 64 Unit Unit:=⟨λr t e=>[(7,er e 7),(8,er e 8)],λr t h=>[((0,41,0),hr h (0,41,0)),((0,41,1),hr h (0,41,1)),((0,41,2),hr h (0,41,2)),((0,41,3),hr h (0,41,3)),((0,10,0),hr h (0,10,0))]⟩
def cZ.j5:LJ 5 54 Unit Bool:=⟨λr t e=>[(7,er e 7),(8,er e 8),(10,er e 10),(42,er e 42),(44,.v (.bool t))],λr t h=>[((0,41,0),hr h (0,41,0)),((0,41,1),hr h (0,41,1)),((0,41,2),hr h (0,41,2)),((0,41,3),hr h (0,41,3)),((0,10,0),hr h (0,10,0))]⟩
def cZ.j2:LJ 2 44 Unit Unit:=⟨λr t e=>[(7,er e 7),(8,er e 8),(10,er e 10)],λr t h=>[((0,41,0),hr h (0,41,0)),((0,41,1),hr h (0,41,1)),((0,41,2),hr h (0,41,2)),((0,41,3),hr h (0,41,3)),((0,10,0),hr h (0,10,0))]⟩
def cZ.j1:LJ 1 10 Unit Unit:=⟨λr t e=>[(0,er e 0),(2,er e 2),(7,er e 7),(8,er e 8)],λr t h=>[]⟩
open cZ in
noncomputable abbrev cc4(fu:Nat):Cm prog (Int×dh×(List aj)) Bool:=⟨4,fun t=>[.v (.int .i64 t.1),.agg (mZ t.2.1),.arr t.2.2.length (fm bT t.2.2)],fun t=>cZ fu t.1 t.2.1 t.2.2,fun r=> .v (.bool r),by
 rintro⟨x1,x2,x3⟩
 refine pG fu ES (λcp=>fH) (λcp ok=>eY) d4 Tryz.func4 [.tmp 6] [4] [C5.ct,(cc7 fu).ct,(ajc fu).ct,(X6 fu).ct,(ajg fu).ct,(aji fu).ct] [5,7,12,6,13,14] (λcp H=> ?_)
 obtain⟨H1,H2,H3,H4,H5,H6, -⟩:=H
 have xH1:cp 5 []=some (.v (.bool true)):=(C5.at H1 () true rfl)
 unfold cZ
 have z0:=Da (aJ d4.eq_1)
 have z1:= @yg
 have z2:= @yw
 exact Wk,Zi⟩
theorem xB(fu:Nat)(x1:Int)(x2:dh)(x3:(List aj))(r)(h:cZ fu x1 x2 x3=some r):bH prog 4 [.v (.int .i64 x1),.agg (mZ x2),.arr x3.length (fm bT x3)] (.v (.bool r)):=(cc4 fu).ok (x1,x2,x3) r h
end Go.Av
