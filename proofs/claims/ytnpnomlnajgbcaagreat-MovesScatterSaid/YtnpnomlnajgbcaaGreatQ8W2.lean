/- The walks of the plain functions, part 2. Made by a program of mine. Conditions: none. -/
import Derived.Test.YtnpnomlnajgbcaaGreatQ8W1
set_option linter.unusedVariables false
set_option linter.unusedSimpArgs false
set_option linter.defProp false
set_option maxRecDepth 20000
open Go Go.Proofs
namespace Go.Av
open Aw (d17 d18 d19 d20 d21 d22 d23 d25 d31 d32 d33 d35 d36 d37 d38 d40 d41 d44 d49 d50 d57 d58 d59 d60 d61 d62 d63 d64 d65 d68 d69 d70 d71 d72 d76 d83 d84 d85 d86 d98 d99 d100 d101 d102 d103 d112 d113 d116 d117 d118 d123 d124 d125 d126 d127 d128 d129 d130 d132 d137 d139 d147 d154 d155)
def d10:List (Nat×List Nat):=[(0,[1,8,9]),(0,[25,26,27]),(0,[18,19]),(0,[]),(0,[]),(0,[]),(0,[21,22,23,24,41505000010]),(0,[]),(0,[]),(0,[]),(0,[]),(0,[]),(0,[29,30]),(0,[]),(0,[31,32]),(0,[]),(0,[34,35]),(0,[]),(0,[36]),(0,[]),(0,[38]),(0,[]),(1008,[12,13,39,40,41,42,43,44,45,46,47,48,49]),(0,[]),(0,[50]),(0,[]),(11,[2,3,51,52,53,54,55,56,57,58,59]),(0,[]),(0,[60]),(0,[]),(0,[62]),(0,[]),(0,[15,63,64,65,66,67,68,69,70,71]),(0,[]),(23384026197294446691298571404717660483291694666880,[5,72,73,74,75,76,77,78,79,80,81,82,83,84,85,86]),(0,[]),(0,[]),(0,[]),(0,[87,88,89,90,91,92,93,94,95]),(0,[]),(0,[17]),(0,[]),(0,[97,98,99,100,101]),(0,[]),(0,[17,102]),(0,[]),(0,[]),(0,[]),(0,[0,104]),(0,[]),(0,[106,107,108]),(0,[]),(0,[10,14,16,109,110,111,112,113,114,115,116])]
def d10_at:=by have h:=tabL d10.eq_1;simp only[AllAt,Nat.zero_add,Nat.reduceAdd]at h;exact h
theorem i10:finfo Tryz.prog 10 d10=some ⟨bodyOf Tryz.f10,[.tmp 8,.tmp 9],[29,30]⟩:=finfo_at Tryz.func10 rfl (by kernel_rfl) (by kernel_rfl)
def e10:((List T_Tensor)×Int)->AV:=λr=> .tuple [.arr r.1.length (fm c_T_Tensor r.1),.v (.int .i64 r.2)]
set_option maxHeartbeats 400000000 in
theorem w10(cp:CallP)(fu:Nat)(x1:Int)(x2:T_Setting)(x3:List T_Tensor)(x4:Int)(H17_0: ∀ (a0:Int) r,moves_Has fu a0=some r→cp 17 [.v (.int .i64 a0)]=some (.v (.bool r)))(H18_0: ∀ (a0:T_Tensor) r,tens_Check fu a0=some r→cp 18 [.agg (c_T_Tensor a0)]=some (.v (.int .i64 r)))(H19_0: ∀ (a0:T_Tensor) r,tens_Canon fu a0=some r→cp 19 [.agg (c_T_Tensor a0)]=some (.agg [.v (.int .i64 r.fType),.fresh 1 r.fDims.length (lm (ik .i64) r.fDims),.fresh 1 r.fF.length (lm (ik .u32) r.fF),.fresh 1 r.fI.length (lm (ik .i64) r.fI),.fresh 1 r.fB.length (lm (bk) r.fB)]))(H21_0: ∀ (a0:List T_Tensor) r,ewise_Vals fu a0=some r→cp 21 [.arr a0.length (fm c_T_Tensor a0)]=some (.arr r.length (fm c_T_Val r)))(H20_0: ∀ (a0:Int) (a1:T_Setting) (a2:List T_Val) (a3:Int) r,infer_Node fu a0 a1 a2 a3=some r→cp 20 [.v (.int .i64 a0),.agg (c_T_Setting a1),.arr a2.length (fm c_T_Val a2),.v (.int .i64 a3)]=some (.tuple [.arr r.1.length (fm c_T_Val r.1),.v (.int .i64 r.2)]))(H22_0: ∀ (a0:Int) (a1:Int) r,shape_Axis fu a0 a1=some r→cp 22 [.v (.int .i64 a0),.v (.int .i64 a1)]=some (.tuple [.v (.int .i64 r.1),.v (.int .i64 r.2)]))(H23_0: ∀ (a0:T_moves_move) r,moves_move_named fu a0=some r→cp 23 [.ref (c_T_moves_move a0) 0]=some (.tuple [.fresh 1 r.1.length (lm (ik .i64) r.1),.v (.bool r.2)]))(H50_0: ∀ (a0:T_moves_move) (a1:List Int) r,moves_move_along fu a0 a1=some r→cp 50 [.ref (c_T_moves_move a0) 0,.arr a1.length (lm (ik .i64) a1)]=some (.fresh 1 r.length (lm (ik .i64) r)))(H49_0: ∀ (a0:T_Tensor) (a1:List Int) (a2:List Int) r,tens_Pick fu a0 a1 a2=some r→cp 49 [.agg (c_T_Tensor a0),.arr a1.length (lm (ik .i64) a1),.arr a2.length (lm (ik .i64) a2)]=some (.tuple [.agg [.v (.int .i64 r.1.fType),.fresh 1 r.1.fDims.length (lm (ik .i64) r.1.fDims),.fresh 1 r.1.fF.length (lm (ik .u32) r.1.fF),.fresh 1 r.1.fI.length (lm (ik .i64) r.1.fI),.fresh 1 r.1.fB.length (lm (bk) r.1.fB)],.v (.int .i64 r.2)])):J (go Tryz.prog (inlC [25,51]) cp (ciE Tryz.prog (inlC [25,51]) cp (ciE Tryz.prog (inlC [25,51]) cp noI fu 51 d51 ⟨b51,[.cell 4 27],[27]⟩ noI) fu 25 d25 ⟨b25,[.cell 6 27],[27]⟩ (ciE Tryz.prog (inlC [25,51]) cp noI fu 51 d51 ⟨b51,[.cell 4 27],[27]⟩ noI)) 0 [] d10 fu (finS Tryz.prog [.tmp 8,.tmp 9] [29,30]) (bodyOf Tryz.f10) (initE 0 [.v (.int .i64 x1),.agg (c_T_Setting x2),.arr x3.length (fm c_T_Tensor x3),.v (.int .i64 x4)]) [] []) (moves_Do fu x1 x2 x3 x4) e10:=by
 unfold moves_Do e10
 have da:=d10_at
 refine J.chk λh1=> ?_
 refine J.spl (λh2=> ?_) (λh2=> ?_)
 ·refine J.l2 fun x5 x6 h3=> ?_
  subst h3
  conv=>arg 1;simp (maxSteps:=4000000) (disch:=first|exact Zd|fail) only[bodyOf,Tryz.f10,ZZ,d10_at,simprocAttr,RI,RIk,initE,RL,SE,h1,h2,wkl,RU3]
  refine J.eq go_seq ?_
  refine J.bind λx7 h4=> ?_
  have e_h4:=H17_0 _ _ h4
  try simp only[NN,NT,LN,simprocAttr,DT]at e_h4
  conv=>arg 1;simp (maxSteps:=4000000) (disch:=first|exact Zd|fail) only[ZZ,d10_at,simprocAttr,RI,RIk,initE,RL,SE,h1,h2,wkl,RU3,e_h4]
  refine J.ite (λh5=> ?_) (λh5=> ?_)
  ·have h5':x7=true:=h5
   conv=>arg 1;simp (maxSteps:=4000000) (disch:=first|exact Zd|fail) only[ZZ,d10_at,simprocAttr,RI,RIk,initE,RL,SE,h1,h2,wkl,RU3,e_h4,h5']
   refine J.eq ret_seq ?_
   conv=>arg 1;simp (maxSteps:=4000000) (disch:=first|exact Zd|fail) only[ZZ,d10_at,simprocAttr,RI,RIk,initE,RL,SE,h1,h2,wkl,RU3,e_h4,h5']
   refine J.joinS (λ(t:Int×Int×(List Int)×(List Int)×(List Int)×(List Bool)×(List Int)×(List Int)×(List Int)×(List Bool))=>([(0,.v (.int .i64 51)),(2,.arr 2 [.v (.int .i64 x5.fType),.arr x5.fDims.length (lm (ik .i64) x5.fDims),.arr x5.fF.length (lm (ik .u32) x5.fF),.arr x5.fI.length (lm (ik .i64) x5.fI),.arr x5.fB.length (lm (bk) x5.fB),.v (.int .i64 x6.fType),.arr x6.fDims.length (lm (ik .i64) x6.fDims),.arr x6.fF.length (lm (ik .u32) x6.fF),.arr x6.fI.length (lm (ik .i64) x6.fI),.arr x6.fB.length (lm (bk) x6.fB)]),(3,.v (.int .i64 x4)),(5,.ptr (0,5,0) 0 0),(10,.ptr (0,24,0) 0 0)],[((0,5,0),.bx true ([.v (.int .i64 x2.fAxis),.arr x2.fAxes.length (lm (ik .i64) x2.fAxes),.v (.bool x2.fHasAxes),.v (.bool x2.fKeep),.v (.bool x2.fNoop),.v (.bool x2.fLast),.v (.bool x2.fZero),.arr x2.fPerm.length (lm (ik .i64) x2.fPerm),.v (.bool x2.fHasPerm),.v (.int .u32 x2.fAlpha),.v (.int .u32 x2.fBeta),.v (.int .u32 x2.fEpsilon),.v (.bool x2.fLow),.v (.bool x2.fHigh),.v (.bool x2.fFmod),.v (.int .i64 x2.fTo),.v (.int .i64 0),.v (.bool x2.fTransA),.v (.bool x2.fTransB),.v (.int .i64 x2.fGroup),.arr x2.fKernel.length (lm (ik .i64) x2.fKernel),.arr x2.fStrides.length (lm (ik .i64) x2.fStrides),.arr x2.fPads.length (lm (ik .i64) x2.fPads),.arr x2.fDilations.length (lm (ik .i64) x2.fDilations),.v (.int .i64 x2.fAuto),.v (.bool x2.fCeil),.v (.bool x2.fCount),.v (.int .i64 x2.fBlock),.v (.int .i64 x2.fStart),.v (.int .i64 x2.fEnd),.v (.bool x2.fHasEnd),.v (.int .i64 x2.fValue.fType),.arr x2.fValue.fDims.length (lm (ik .i64) x2.fValue.fDims),.arr x2.fValue.fF.length (lm (ik .u32) x2.fValue.fF),.arr x2.fValue.fI.length (lm (ik .i64) x2.fValue.fI),.arr x2.fValue.fB.length (lm (bk) x2.fValue.fB)])),((0,24,0),.bx true ([.v (.int .i64 51),.v (.int .i64 x2.fAxis),.arr x2.fAxes.length (lm (ik .i64) x2.fAxes),.v (.bool x2.fHasAxes),.v (.bool x2.fKeep),.v (.bool x2.fNoop),.v (.bool x2.fLast),.v (.bool x2.fZero),.arr x2.fPerm.length (lm (ik .i64) x2.fPerm),.v (.bool x2.fHasPerm),.v (.int .u32 x2.fAlpha),.v (.int .u32 x2.fBeta),.v (.int .u32 x2.fEpsilon),.v (.bool x2.fLow),.v (.bool x2.fHigh),.v (.bool x2.fFmod),.v (.int .i64 x2.fTo),.v (.int .i64 0),.v (.bool x2.fTransA),.v (.bool x2.fTransB),.v (.int .i64 x2.fGroup),.arr x2.fKernel.length (lm (ik .i64) x2.fKernel),.arr x2.fStrides.length (lm (ik .i64) x2.fStrides),.arr x2.fPads.length (lm (ik .i64) x2.fPads),.arr x2.fDilations.length (lm (ik .i64) x2.fDilations),.v (.int .i64 x2.fAuto),.v (.bool x2.fCeil),.v (.bool x2.fCount),.v (.int .i64 x2.fBlock),.v (.int .i64 x2.fStart),.v (.int .i64 x2.fEnd),.v (.bool x2.fHasEnd),.v (.int .i64 x2.fValue.fType),.arr x2.fValue.fDims.length (lm (ik .i64) x2.fValue.fDims),.arr x2.fValue.fF.length (lm (ik .u32) x2.fValue.fF),.arr x2.fValue.fI.length (lm (ik .i64) x2.fValue.fI),.arr x2.fValue.fB.length (lm (bk) x2.fValue.fB),.own (0,10,115) 0 2 2,.v (.int .i64 0),.v (.slice none 0 0),.v (.slice none 0 0),.v (.slice none 0 0),.v (.slice none 0 0),.v (.int .i64 0)])),((0,10,115),.sl false true 5 2 ([.v (.int .i64 t.1),.own (0,45,0) 0 t.2.2.1.length t.2.2.1.length,.own (0,45,1) 0 t.2.2.2.1.length t.2.2.2.1.length,.own (0,45,2) 0 t.2.2.2.2.1.length t.2.2.2.2.1.length,.own (0,45,3) 0 t.2.2.2.2.2.1.length t.2.2.2.2.2.1.length,.v (.int .i64 t.2.1),.own (0,45,100) 0 t.2.2.2.2.2.2.1.length t.2.2.2.2.2.2.1.length,.own (0,45,101) 0 t.2.2.2.2.2.2.2.1.length t.2.2.2.2.2.2.2.1.length,.own (0,45,102) 0 t.2.2.2.2.2.2.2.2.1.length t.2.2.2.2.2.2.2.2.1.length,.own (0,45,103) 0 t.2.2.2.2.2.2.2.2.2.length t.2.2.2.2.2.2.2.2.2.length])),((0,45,0),.sl true true 1 t.2.2.1.length (lm (ik .i64) t.2.2.1)),((0,45,1),.sl true true 1 t.2.2.2.1.length (lm (ik .u32) t.2.2.2.1)),((0,45,2),.sl true true 1 t.2.2.2.2.1.length (lm (ik .i64) t.2.2.2.2.1)),((0,45,3),.sl true true 1 t.2.2.2.2.2.1.length (lm (bk) t.2.2.2.2.2.1)),((0,45,100),.sl true true 1 t.2.2.2.2.2.2.1.length (lm (ik .i64) t.2.2.2.2.2.2.1)),((0,45,101),.sl true true 1 t.2.2.2.2.2.2.2.1.length (lm (ik .u32) t.2.2.2.2.2.2.2.1)),((0,45,102),.sl true true 1 t.2.2.2.2.2.2.2.2.1.length (lm (ik .i64) t.2.2.2.2.2.2.2.2.1)),((0,45,103),.sl true true 1 t.2.2.2.2.2.2.2.2.2.length (lm (bk) t.2.2.2.2.2.2.2.2.2))])) (λt=>moves_Do.k1 fu x2 x4 x5 x6 t.1 t.2.1 t.2.2.1 t.2.2.2.1 t.2.2.2.2.1 t.2.2.2.2.2.1 t.2.2.2.2.2.2.1 t.2.2.2.2.2.2.2.1 t.2.2.2.2.2.2.2.2.1 t.2.2.2.2.2.2.2.2.2) ?_ (λhj1=> ?_)
   ·rintro⟨x8,x9,x10,x11,x12,x13,x14,x15,x16,x17⟩
    show J _ (moves_Do.k1 fu x2 x4 x5 x6 x8 x9 x10 x11 x12 x13 x14 x15 x16 x17) _
    unfold moves_Do.k1
    refine J.bind λx18 h6=> ?_
    have e_h6:=H21_0 _ _ h6
    try simp only[NN,NT,LN,simprocAttr,DT]at e_h6
    refine J.bind λx19 h7=> ?_
    have e_h7:=H20_0 _ _ _ _ _ h7
    try simp only[NN,NT,LN,simprocAttr,DT]at e_h7
    conv=>arg 1;simp (maxSteps:=4000000) (disch:=first|exact Zd|fail) only[ZZ,d10_at,simprocAttr,RI,RIk,initE,RL,SE,h1,h2,wkl,RU3,e_h4,h5',e_h6,e_h7]
    refine J.eq go_seq ?_
    conv=>arg 1;simp (maxSteps:=4000000) (disch:=first|exact Zd|fail) only[ZZ,d10_at,simprocAttr,RI,RIk,initE,RL,SE,h1,h2,wkl,RU3,e_h4,h5',e_h6,e_h7]
    refine J.ite (λh8=> ?_) (λh8=> ?_)
    ·have h8':=decide_eq_true h8
     conv=>arg 1;simp (maxSteps:=4000000) (disch:=first|exact Zd|fail) only[ZZ,d10_at,simprocAttr,RI,RIk,initE,RL,SE,h1,h2,wkl,RU3,e_h4,h5',e_h6,e_h7,h8']
     refine J.eq ret_seq ?_
     refine J.bind λx20 h9=> ?_
     have e_h9:=H22_0 _ _ _ h9
     try simp only[NN,NT,LN,simprocAttr,DT]at e_h9
     conv=>arg 1;simp (maxSteps:=4000000) (disch:=first|exact Zd|fail) only[ZZ,d10_at,simprocAttr,RI,RIk,initE,RL,SE,h1,h2,wkl,RU3,e_h4,h5',e_h6,e_h7,h8',e_h9]
     refine J.joinS (λ(t:List Int)=>([(0,.v (.int .i64 51)),(10,.ptr (0,24,0) 0 0),(14,.arr x19.1.length (fm c_T_Val x19.1)),(16,.own (0,99,0) 0 t.length t.length)],[((0,24,0),.bx true ([.v (.int .i64 51),.v (.int .i64 x2.fAxis),.arr x2.fAxes.length (lm (ik .i64) x2.fAxes),.v (.bool x2.fHasAxes),.v (.bool x2.fKeep),.v (.bool x2.fNoop),.v (.bool x2.fLast),.v (.bool x2.fZero),.arr x2.fPerm.length (lm (ik .i64) x2.fPerm),.v (.bool x2.fHasPerm),.v (.int .u32 x2.fAlpha),.v (.int .u32 x2.fBeta),.v (.int .u32 x2.fEpsilon),.v (.bool x2.fLow),.v (.bool x2.fHigh),.v (.bool x2.fFmod),.v (.int .i64 x2.fTo),.v (.int .i64 0),.v (.bool x2.fTransA),.v (.bool x2.fTransB),.v (.int .i64 x2.fGroup),.arr x2.fKernel.length (lm (ik .i64) x2.fKernel),.arr x2.fStrides.length (lm (ik .i64) x2.fStrides),.arr x2.fPads.length (lm (ik .i64) x2.fPads),.arr x2.fDilations.length (lm (ik .i64) x2.fDilations),.v (.int .i64 x2.fAuto),.v (.bool x2.fCeil),.v (.bool x2.fCount),.v (.int .i64 x2.fBlock),.v (.int .i64 x2.fStart),.v (.int .i64 x2.fEnd),.v (.bool x2.fHasEnd),.v (.int .i64 x2.fValue.fType),.arr x2.fValue.fDims.length (lm (ik .i64) x2.fValue.fDims),.arr x2.fValue.fF.length (lm (ik .u32) x2.fValue.fF),.arr x2.fValue.fI.length (lm (ik .i64) x2.fValue.fI),.arr x2.fValue.fB.length (lm (bk) x2.fValue.fB),.own (0,10,115) 0 2 2,.v (.int .i64 x8),.own (0,45,0) 0 x10.length x10.length,.own (0,45,1) 0 x11.length x11.length,.own (0,45,2) 0 x12.length x12.length,.own (0,45,3) 0 x13.length x13.length,.v (.int .i64 x20.1)])),((0,10,115),.sl false true 5 2 ([.v (.int .i64 x8),.own (0,45,0) 0 x10.length x10.length,.own (0,45,1) 0 x11.length x11.length,.own (0,45,2) 0 x12.length x12.length,.own (0,45,3) 0 x13.length x13.length,.v (.int .i64 x9),.own (0,45,100) 0 x14.length x14.length,.own (0,45,101) 0 x15.length x15.length,.own (0,45,102) 0 x16.length x16.length,.own (0,45,103) 0 x17.length x17.length])),((0,45,0),.sl true true 1 x10.length (lm (ik .i64) x10)),((0,45,1),.sl true true 1 x11.length (lm (ik .u32) x11)),((0,45,2),.sl true true 1 x12.length (lm (ik .i64) x12)),((0,45,3),.sl true true 1 x13.length (lm (bk) x13)),((0,45,100),.sl true true 1 x14.length (lm (ik .i64) x14)),((0,45,101),.sl true true 1 x15.length (lm (ik .u32) x15)),((0,45,102),.sl true true 1 x16.length (lm (ik .i64) x16)),((0,45,103),.sl true true 1 x17.length (lm (bk) x17)),((0,99,0),.sl true true 1 t.length (lm (ik .i64) t))])) (λt=>moves_Do.k2 fu x2 x8 x9 x10 x11 x12 x13 x14 x15 x16 x17 x19 x20 t) ?_ (λhj2=> ?_)
     ·rintro x21
      show J _ (moves_Do.k2 fu x2 x8 x9 x10 x11 x12 x13 x14 x15 x16 x17 x19 x20 x21) _
      unfold moves_Do.k2
      refine J.eq go_seq ?_
      conv=>arg 1;simp (maxSteps:=4000000) (disch:=first|exact Zd|fail) only[ZZ,d10_at,simprocAttr,RI,RIk,initE,RL,SE,h1,h2,wkl,RU3,e_h4,h5',e_h6,e_h7,h8',e_h9]
      refine J.eq ret_seq ?_
      refine J.at λx22 h10 h11 h12=> ?_
      replace h12:x19.1[0]? =some x22:=h12
      have h12k:=fm_cut c_T_Val_len h12
      have h12f:=fm_fit c_T_Val_len h12
      have h12a0:=fm_at (j:=0) c_T_Val_len h12 (by decide)
      have h12a1:=fm_at (j:=1) c_T_Val_len h12 (by decide)
      have h12a2:=fm_at (j:=2) c_T_Val_len h12 (by decide)
      have h12a3:=fm_at (j:=3) c_T_Val_len h12 (by decide)
      have h12a4:=fm_at (j:=4) c_T_Val_len h12 (by decide)
      have h12a5:=fm_at (j:=5) c_T_Val_len h12 (by decide)
      have h12a6:=fm_at (j:=6) c_T_Val_len h12 (by decide)
      have h12a7:=fm_at (j:=7) c_T_Val_len h12 (by decide)
      simp only[simprocAttr,Nat.zero_mul,Nat.zero_add,Nat.add_zero,List.drop_zero]at h12k h12f h12a0 h12a1 h12a2 h12a3 h12a4 h12a5 h12a6 h12a7
      conv=>arg 1;simp (maxSteps:=4000000) (disch:=first|exact Zd|fail) only[ZZ,d10_at,simprocAttr,go_b25,bodyOf,Tryz.f25,d25_at,RI,RIk,initE,RL,SE,h1,h2,wkl,RU3,e_h4,h5',e_h6,e_h7,h8',e_h9,h12k,h12f,h12a0,h12a1,h12a2,h12a3,h12a4,h12a5,h12a6,h12a7]
      refine J.eq go_seq ?_
      refine J.bind λx23 h13=> ?_
      have e_h13:=H50_0 _ _ _ h13
      try simp only[NN,NT,LN,simprocAttr,DT]at e_h13
      refine J.bind λx24 h14=> ?_
      have e_h14:=H49_0 _ _ _ _ h14
      try simp only[NN,NT,LN,simprocAttr,DT]at e_h14
      refine J.some ?_
      simp (maxSteps:=20000000) (disch:=first|exact Zd|fail) only[ZZ,d10_at,simprocAttr,go_b25,bodyOf,Tryz.f25,d25_at,RI,RIk,initE,RL,SE,h1,h2,wkl,RU3,e_h4,h5',e_h6,e_h7,h8',e_h9,h12k,h12f,h12a0,h12a1,h12a2,h12a3,h12a4,h12a5,h12a6,h12a7,e_h13,e_h14,FN]
     ·refine J.hd jn_at ?_
      refine J.eq go_seq ?_
      conv=>arg 1;simp (maxSteps:=4000000) (disch:=first|exact Zd|fail) only[ZZ,d10_at,simprocAttr,go_b25,bodyOf,Tryz.f25,d25_at,RI,RIk,initE,RL,SE,h1,h2,wkl,RU3,e_h4,h5',e_h6,e_h7,h8',e_h9]
      refine J.eq ret_seq ?_
      refine J.bind λx25 h15=> ?_
      have e_h15:=H23_0 _ _ h15
      try simp only[NN,NT,LN,simprocAttr,DT]at e_h15
      conv=>arg 1;simp (maxSteps:=4000000) (disch:=first|exact Zd|fail) only[ZZ,d10_at,simprocAttr,go_b25,bodyOf,Tryz.f25,d25_at,RI,RIk,initE,RL,SE,h1,h2,wkl,RU3,e_h4,h5',e_h6,e_h7,h8',e_h9,e_h15]
      refine J.ite (λh16=> ?_) (λh16=> ?_)
      ·have h16':x25.2=true:=h16
       conv=>arg 1;simp (maxSteps:=4000000) (disch:=first|exact Zd|fail) only[ZZ,d10_at,simprocAttr,go_b25,bodyOf,Tryz.f25,d25_at,RI,RIk,initE,RL,SE,h1,h2,wkl,RU3,e_h4,h5',e_h6,e_h7,h8',e_h9,e_h15,h16']
       refine J.jmp (t:=x25.1) hj2 ?_ ?_
       ·exact Ze
       ·exact Zh
      ·have h16':x25.2=false:=Bool.eq_false_iff.2 h16
       refine J.some ?_
       simp (maxSteps:=20000000) (disch:=first|exact Zd|fail) only[ZZ,d10_at,simprocAttr,go_b25,bodyOf,Tryz.f25,d25_at,RI,RIk,initE,RL,SE,h1,h2,wkl,RU3,e_h4,h5',e_h6,e_h7,h8',e_h9,e_h15,h16',FN]
    ·have h8':=decide_eq_false h8
     refine J.some ?_
     simp (maxSteps:=20000000) (disch:=first|exact Zd|fail) only[ZZ,d10_at,simprocAttr,go_b25,bodyOf,Tryz.f25,d25_at,RI,RIk,initE,RL,SE,h1,h2,wkl,RU3,e_h4,h5',e_h6,e_h7,h8',FN]
   ·refine J.hd jn_at ?_
    conv=>arg 1;simp (maxSteps:=4000000) (disch:=first|exact Zd|fail) only[ZZ,d10_at,simprocAttr,go_b25,bodyOf,Tryz.f25,d25_at,RI,RIk,initE,RL,SE,h1,h2,wkl,RU3,e_h4,h5']
    refine J.un λx26=> ?_
    conv=>arg 1;simp (maxSteps:=4000000) (disch:=first|exact Zd|fail) only[ZZ,d10_at,simprocAttr,go_b25,bodyOf,Tryz.f25,d25_at,RI,RIk,initE,RL,SE,h1,h2,wkl,RU3,e_h4,h5']
    refine J.eq go_seq ?_
    conv=>arg 1;simp (maxSteps:=4000000) (disch:=first|exact Zd|fail) only[ZZ,d10_at,simprocAttr,go_b25,bodyOf,Tryz.f25,d25_at,RI,RIk,initE,RL,SE,h1,h2,wkl,RU3,e_h4,h5']
    refine J.eq ret_seq ?_
    refine J.eq go_seq ?_
    conv=>arg 1;simp (maxSteps:=4000000) (disch:=first|exact Zd|fail) only[ZZ,d10_at,simprocAttr,go_b25,bodyOf,Tryz.f25,d25_at,RI,RIk,initE,RL,SE,h1,h2,wkl,RU3,e_h4,h5']
    refine J.eq go_seq ?_
    conv=>arg 1;simp (maxSteps:=4000000) (disch:=first|exact Zd|fail) only[ZZ,d10_at,simprocAttr,go_b25,bodyOf,Tryz.f25,d25_at,RI,RIk,initE,RL,SE,h1,h2,wkl,RU3,e_h4,h5']
    refine J.ite (λh17=> ?_) (λh17=> ?_)
    ·have h17':=decide_eq_true h17
     conv=>arg 1;simp (maxSteps:=4000000) (disch:=first|exact Zd|fail) only[ZZ,d10_at,simprocAttr,go_b25,bodyOf,Tryz.f25,d25_at,RI,RIk,initE,RL,SE,h1,h2,wkl,RU3,e_h4,h5',h17']
     refine J.eq ret_seq ?_
     refine J.bind λx27 h18=> ?_
     have e_h18:=H19_0 _ _ h18
     try simp only[NN,NT,LN,simprocAttr,DT]at e_h18
     conv=>arg 1;simp (maxSteps:=4000000) (disch:=first|exact Zd|fail) only[ZZ,d10_at,simprocAttr,go_b25,bodyOf,Tryz.f25,d25_at,RI,RIk,initE,RL,SE,h1,h2,wkl,RU3,e_h4,h5',h17',e_h18]
     refine J.eq ret_seq ?_
     conv=>arg 1;simp (maxSteps:=4000000) (disch:=first|exact Zd|fail) only[ZZ,d10_at,simprocAttr,go_b25,bodyOf,Tryz.f25,d25_at,RI,RIk,initE,RL,SE,h1,h2,wkl,RU3,e_h4,h5',h17',e_h18]
     refine J.un λx28=> ?_
     conv=>arg 1;simp (maxSteps:=4000000) (disch:=first|exact Zd|fail) only[ZZ,d10_at,simprocAttr,go_b25,bodyOf,Tryz.f25,d25_at,RI,RIk,initE,RL,SE,h1,h2,wkl,RU3,e_h4,h5',h17',e_h18]
     refine J.eq go_seq ?_
     conv=>arg 1;simp (maxSteps:=4000000) (disch:=first|exact Zd|fail) only[ZZ,d10_at,simprocAttr,go_b25,bodyOf,Tryz.f25,d25_at,RI,RIk,initE,RL,SE,h1,h2,wkl,RU3,e_h4,h5',h17',e_h18]
     refine J.eq ret_seq ?_
     refine J.eq go_seq ?_
     conv=>arg 1;simp (maxSteps:=4000000) (disch:=first|exact Zd|fail) only[ZZ,d10_at,simprocAttr,go_b25,bodyOf,Tryz.f25,d25_at,RI,RIk,initE,RL,SE,h1,h2,wkl,RU3,e_h4,h5',h17',e_h18]
     refine J.eq go_seq ?_
     conv=>arg 1;simp (maxSteps:=4000000) (disch:=first|exact Zd|fail) only[ZZ,d10_at,simprocAttr,go_b25,bodyOf,Tryz.f25,d25_at,RI,RIk,initE,RL,SE,h1,h2,wkl,RU3,e_h4,h5',h17',e_h18]
     refine J.ite (λh19=> ?_) (λh19=> ?_)
     ·have h19':=decide_eq_true h19
      conv=>arg 1;simp (maxSteps:=4000000) (disch:=first|exact Zd|fail) only[ZZ,d10_at,simprocAttr,go_b25,bodyOf,Tryz.f25,d25_at,RI,RIk,initE,RL,SE,h1,h2,wkl,RU3,e_h4,h5',h17',e_h18,h19']
      refine J.eq ret_seq ?_
      refine J.bind λx29 h20=> ?_
      have e_h20:=H19_0 _ _ h20
      try simp only[NN,NT,LN,simprocAttr,DT]at e_h20
      conv=>arg 1;simp (maxSteps:=4000000) (disch:=first|exact Zd|fail) only[ZZ,d10_at,simprocAttr,go_b25,bodyOf,Tryz.f25,d25_at,RI,RIk,initE,RL,SE,h1,h2,wkl,RU3,e_h4,h5',h17',e_h18,h19',e_h20]
      refine J.eq ret_seq ?_
      conv=>arg 1;simp (maxSteps:=4000000) (disch:=first|exact Zd|fail) only[ZZ,d10_at,simprocAttr,go_b25,bodyOf,Tryz.f25,d25_at,RI,RIk,initE,RL,SE,h1,h2,wkl,RU3,e_h4,h5',h17',e_h18,h19',e_h20]
      refine J.un λx30=> ?_
      conv=>arg 1;simp (maxSteps:=4000000) (disch:=first|exact Zd|fail) only[ZZ,d10_at,simprocAttr,go_b25,bodyOf,Tryz.f25,d25_at,RI,RIk,initE,RL,SE,h1,h2,wkl,RU3,e_h4,h5',h17',e_h18,h19',e_h20]
      refine J.eq go_seq ?_
      conv=>arg 1;simp (maxSteps:=4000000) (disch:=first|exact Zd|fail) only[ZZ,d10_at,simprocAttr,go_b25,bodyOf,Tryz.f25,d25_at,RI,RIk,initE,RL,SE,h1,h2,wkl,RU3,e_h4,h5',h17',e_h18,h19',e_h20]
      refine J.jmp (t:=(x27.fType,x29.fType,x27.fDims,x27.fF,x27.fI,x27.fB,x29.fDims,x29.fF,x29.fI,x29.fB)) hj1 ?_ ?_
      ·exact Ze
      ·exact Zh
     ·have h19':=decide_eq_false h19
      refine J.bind λx31 h21=> ?_
      have e_h21:=H18_0 _ _ h21
      try simp only[NN,NT,LN,simprocAttr,DT]at e_h21
      conv=>arg 1;simp (maxSteps:=4000000) (disch:=first|exact Zd|fail) only[ZZ,d10_at,simprocAttr,go_b25,bodyOf,Tryz.f25,d25_at,RI,RIk,initE,RL,SE,h1,h2,wkl,RU3,e_h4,h5',h17',e_h18,h19',e_h21]
      refine J.ite (λh22=> ?_) (λh22=> ?_)
      ·have h22':=decide_eq_true h22
       conv=>arg 1;simp (maxSteps:=4000000) (disch:=first|exact Zd|fail) only[ZZ,d10_at,simprocAttr,go_b25,bodyOf,Tryz.f25,d25_at,RI,RIk,initE,RL,SE,h1,h2,wkl,RU3,e_h4,h5',h17',e_h18,h19',e_h21,h22']
       refine J.eq ret_seq ?_
       refine J.bind λx32 h23=> ?_
       have e_h23:=H19_0 _ _ h23
       try simp only[NN,NT,LN,simprocAttr,DT]at e_h23
       conv=>arg 1;simp (maxSteps:=4000000) (disch:=first|exact Zd|fail) only[ZZ,d10_at,simprocAttr,go_b25,bodyOf,Tryz.f25,d25_at,RI,RIk,initE,RL,SE,h1,h2,wkl,RU3,e_h4,h5',h17',e_h18,h19',e_h21,h22',e_h23]
       refine J.eq ret_seq ?_
       conv=>arg 1;simp (maxSteps:=4000000) (disch:=first|exact Zd|fail) only[ZZ,d10_at,simprocAttr,go_b25,bodyOf,Tryz.f25,d25_at,RI,RIk,initE,RL,SE,h1,h2,wkl,RU3,e_h4,h5',h17',e_h18,h19',e_h21,h22',e_h23]
       refine J.un λx33=> ?_
       conv=>arg 1;simp (maxSteps:=4000000) (disch:=first|exact Zd|fail) only[ZZ,d10_at,simprocAttr,go_b25,bodyOf,Tryz.f25,d25_at,RI,RIk,initE,RL,SE,h1,h2,wkl,RU3,e_h4,h5',h17',e_h18,h19',e_h21,h22',e_h23]
       refine J.eq go_seq ?_
       conv=>arg 1;simp (maxSteps:=4000000) (disch:=first|exact Zd|fail) only[ZZ,d10_at,simprocAttr,go_b25,bodyOf,Tryz.f25,d25_at,RI,RIk,initE,RL,SE,h1,h2,wkl,RU3,e_h4,h5',h17',e_h18,h19',e_h21,h22',e_h23]
       refine J.jmp (t:=(x27.fType,x32.fType,x27.fDims,x27.fF,x27.fI,x27.fB,x32.fDims,x32.fF,x32.fI,x32.fB)) hj1 ?_ ?_
       ·exact Ze
       ·exact Zh
      ·have h22':=decide_eq_false h22
       refine J.some ?_
       simp (maxSteps:=20000000) (disch:=first|exact Zd|fail) only[ZZ,d10_at,simprocAttr,go_b25,bodyOf,Tryz.f25,d25_at,RI,RIk,initE,RL,SE,h1,h2,wkl,RU3,e_h4,h5',h17',e_h18,h19',e_h21,h22',FN]
    ·have h17':=decide_eq_false h17
     refine J.bind λx34 h24=> ?_
     have e_h24:=H18_0 _ _ h24
     try simp only[NN,NT,LN,simprocAttr,DT]at e_h24
     conv=>arg 1;simp (maxSteps:=4000000) (disch:=first|exact Zd|fail) only[ZZ,d10_at,simprocAttr,go_b25,bodyOf,Tryz.f25,d25_at,RI,RIk,initE,RL,SE,h1,h2,wkl,RU3,e_h4,h5',h17',e_h24]
     refine J.ite (λh25=> ?_) (λh25=> ?_)
     ·have h25':=decide_eq_true h25
      conv=>arg 1;simp (maxSteps:=4000000) (disch:=first|exact Zd|fail) only[ZZ,d10_at,simprocAttr,go_b25,bodyOf,Tryz.f25,d25_at,RI,RIk,initE,RL,SE,h1,h2,wkl,RU3,e_h4,h5',h17',e_h24,h25']
      refine J.eq ret_seq ?_
      refine J.bind λx35 h26=> ?_
      have e_h26:=H19_0 _ _ h26
      try simp only[NN,NT,LN,simprocAttr,DT]at e_h26
      conv=>arg 1;simp (maxSteps:=4000000) (disch:=first|exact Zd|fail) only[ZZ,d10_at,simprocAttr,go_b25,bodyOf,Tryz.f25,d25_at,RI,RIk,initE,RL,SE,h1,h2,wkl,RU3,e_h4,h5',h17',e_h24,h25',e_h26]
      refine J.eq ret_seq ?_
      conv=>arg 1;simp (maxSteps:=4000000) (disch:=first|exact Zd|fail) only[ZZ,d10_at,simprocAttr,go_b25,bodyOf,Tryz.f25,d25_at,RI,RIk,initE,RL,SE,h1,h2,wkl,RU3,e_h4,h5',h17',e_h24,h25',e_h26]
      refine J.un λx36=> ?_
      conv=>arg 1;simp (maxSteps:=4000000) (disch:=first|exact Zd|fail) only[ZZ,d10_at,simprocAttr,go_b25,bodyOf,Tryz.f25,d25_at,RI,RIk,initE,RL,SE,h1,h2,wkl,RU3,e_h4,h5',h17',e_h24,h25',e_h26]
      refine J.eq go_seq ?_
      conv=>arg 1;simp (maxSteps:=4000000) (disch:=first|exact Zd|fail) only[ZZ,d10_at,simprocAttr,go_b25,bodyOf,Tryz.f25,d25_at,RI,RIk,initE,RL,SE,h1,h2,wkl,RU3,e_h4,h5',h17',e_h24,h25',e_h26]
      refine J.eq ret_seq ?_
      refine J.eq go_seq ?_
      conv=>arg 1;simp (maxSteps:=4000000) (disch:=first|exact Zd|fail) only[ZZ,d10_at,simprocAttr,go_b25,bodyOf,Tryz.f25,d25_at,RI,RIk,initE,RL,SE,h1,h2,wkl,RU3,e_h4,h5',h17',e_h24,h25',e_h26]
      refine J.eq go_seq ?_
      conv=>arg 1;simp (maxSteps:=4000000) (disch:=first|exact Zd|fail) only[ZZ,d10_at,simprocAttr,go_b25,bodyOf,Tryz.f25,d25_at,RI,RIk,initE,RL,SE,h1,h2,wkl,RU3,e_h4,h5',h17',e_h24,h25',e_h26]
      refine J.ite (λh27=> ?_) (λh27=> ?_)
      ·have h27':=decide_eq_true h27
       conv=>arg 1;simp (maxSteps:=4000000) (disch:=first|exact Zd|fail) only[ZZ,d10_at,simprocAttr,go_b25,bodyOf,Tryz.f25,d25_at,RI,RIk,initE,RL,SE,h1,h2,wkl,RU3,e_h4,h5',h17',e_h24,h25',e_h26,h27']
       refine J.eq ret_seq ?_
       refine J.bind λx37 h28=> ?_
       have e_h28:=H19_0 _ _ h28
       try simp only[NN,NT,LN,simprocAttr,DT]at e_h28
       conv=>arg 1;simp (maxSteps:=4000000) (disch:=first|exact Zd|fail) only[ZZ,d10_at,simprocAttr,go_b25,bodyOf,Tryz.f25,d25_at,RI,RIk,initE,RL,SE,h1,h2,wkl,RU3,e_h4,h5',h17',e_h24,h25',e_h26,h27',e_h28]
       refine J.eq ret_seq ?_
       conv=>arg 1;simp (maxSteps:=4000000) (disch:=first|exact Zd|fail) only[ZZ,d10_at,simprocAttr,go_b25,bodyOf,Tryz.f25,d25_at,RI,RIk,initE,RL,SE,h1,h2,wkl,RU3,e_h4,h5',h17',e_h24,h25',e_h26,h27',e_h28]
       refine J.un λx38=> ?_
       conv=>arg 1;simp (maxSteps:=4000000) (disch:=first|exact Zd|fail) only[ZZ,d10_at,simprocAttr,go_b25,bodyOf,Tryz.f25,d25_at,RI,RIk,initE,RL,SE,h1,h2,wkl,RU3,e_h4,h5',h17',e_h24,h25',e_h26,h27',e_h28]
       refine J.eq go_seq ?_
       conv=>arg 1;simp (maxSteps:=4000000) (disch:=first|exact Zd|fail) only[ZZ,d10_at,simprocAttr,go_b25,bodyOf,Tryz.f25,d25_at,RI,RIk,initE,RL,SE,h1,h2,wkl,RU3,e_h4,h5',h17',e_h24,h25',e_h26,h27',e_h28]
       refine J.jmp (t:=(x35.fType,x37.fType,x35.fDims,x35.fF,x35.fI,x35.fB,x37.fDims,x37.fF,x37.fI,x37.fB)) hj1 ?_ ?_
       ·exact Ze
       ·exact Zh
      ·have h27':=decide_eq_false h27
       refine J.bind λx39 h29=> ?_
       have e_h29:=H18_0 _ _ h29
       try simp only[NN,NT,LN,simprocAttr,DT]at e_h29
       conv=>arg 1;simp (maxSteps:=4000000) (disch:=first|exact Zd|fail) only[ZZ,d10_at,simprocAttr,go_b25,bodyOf,Tryz.f25,d25_at,RI,RIk,initE,RL,SE,h1,h2,wkl,RU3,e_h4,h5',h17',e_h24,h25',e_h26,h27',e_h29]
       refine J.ite (λh30=> ?_) (λh30=> ?_)
       ·have h30':=decide_eq_true h30
        conv=>arg 1;simp (maxSteps:=4000000) (disch:=first|exact Zd|fail) only[ZZ,d10_at,simprocAttr,go_b25,bodyOf,Tryz.f25,d25_at,RI,RIk,initE,RL,SE,h1,h2,wkl,RU3,e_h4,h5',h17',e_h24,h25',e_h26,h27',e_h29,h30']
        refine J.eq ret_seq ?_
        refine J.bind λx40 h31=> ?_
        have e_h31:=H19_0 _ _ h31
        try simp only[NN,NT,LN,simprocAttr,DT]at e_h31
        conv=>arg 1;simp (maxSteps:=4000000) (disch:=first|exact Zd|fail) only[ZZ,d10_at,simprocAttr,go_b25,bodyOf,Tryz.f25,d25_at,RI,RIk,initE,RL,SE,h1,h2,wkl,RU3,e_h4,h5',h17',e_h24,h25',e_h26,h27',e_h29,h30',e_h31]
        refine J.eq ret_seq ?_
        conv=>arg 1;simp (maxSteps:=4000000) (disch:=first|exact Zd|fail) only[ZZ,d10_at,simprocAttr,go_b25,bodyOf,Tryz.f25,d25_at,RI,RIk,initE,RL,SE,h1,h2,wkl,RU3,e_h4,h5',h17',e_h24,h25',e_h26,h27',e_h29,h30',e_h31]
        refine J.un λx41=> ?_
        conv=>arg 1;simp (maxSteps:=4000000) (disch:=first|exact Zd|fail) only[ZZ,d10_at,simprocAttr,go_b25,bodyOf,Tryz.f25,d25_at,RI,RIk,initE,RL,SE,h1,h2,wkl,RU3,e_h4,h5',h17',e_h24,h25',e_h26,h27',e_h29,h30',e_h31]
        refine J.eq go_seq ?_
        conv=>arg 1;simp (maxSteps:=4000000) (disch:=first|exact Zd|fail) only[ZZ,d10_at,simprocAttr,go_b25,bodyOf,Tryz.f25,d25_at,RI,RIk,initE,RL,SE,h1,h2,wkl,RU3,e_h4,h5',h17',e_h24,h25',e_h26,h27',e_h29,h30',e_h31]
        refine J.jmp (t:=(x35.fType,x40.fType,x35.fDims,x35.fF,x35.fI,x35.fB,x40.fDims,x40.fF,x40.fI,x40.fB)) hj1 ?_ ?_
        ·exact Ze
        ·exact Zh
       ·have h30':=decide_eq_false h30
        refine J.some ?_
        simp (maxSteps:=20000000) (disch:=first|exact Zd|fail) only[ZZ,d10_at,simprocAttr,go_b25,bodyOf,Tryz.f25,d25_at,RI,RIk,initE,RL,SE,h1,h2,wkl,RU3,e_h4,h5',h17',e_h24,h25',e_h26,h27',e_h29,h30',FN]
     ·have h25':=decide_eq_false h25
      refine J.some ?_
      simp (maxSteps:=20000000) (disch:=first|exact Zd|fail) only[ZZ,d10_at,simprocAttr,go_b25,bodyOf,Tryz.f25,d25_at,RI,RIk,initE,RL,SE,h1,h2,wkl,RU3,e_h4,h5',h17',e_h24,h25',FN]
  ·have h5':x7=false:=Bool.eq_false_iff.2 h5
   refine J.some ?_
   simp (maxSteps:=20000000) (disch:=first|exact Zd|fail) only[ZZ,d10_at,simprocAttr,go_b25,bodyOf,Tryz.f25,d25_at,RI,RIk,initE,RL,SE,h1,h2,wkl,RU3,e_h4,h5',FN]
 ·refine J.chk fun h32=> ?_
  refine J.l3 λx42 x43 x44 h33=> ?_
  subst h33
  conv=>arg 1;simp (maxSteps:=4000000) (disch:=first|exact Zd|fail) only[bodyOf,Tryz.f10,ZZ,d10_at,simprocAttr,go_b25,bodyOf,Tryz.f25,d25_at,RI,RIk,initE,RL,SE,h1,h32,wkl,RU3]
  refine J.eq go_seq ?_
  refine J.bind λx45 h34=> ?_
  have e_h34:=H17_0 _ _ h34
  try simp only[NN,NT,LN,simprocAttr,DT]at e_h34
  conv=>arg 1;simp (maxSteps:=4000000) (disch:=first|exact Zd|fail) only[ZZ,d10_at,simprocAttr,go_b25,bodyOf,Tryz.f25,d25_at,RI,RIk,initE,RL,SE,h1,h32,wkl,RU3,e_h34]
  refine J.ite (λh35=> ?_) (λh35=> ?_)
  ·have h35':x45=true:=h35
   conv=>arg 1;simp (maxSteps:=4000000) (disch:=first|exact Zd|fail) only[ZZ,d10_at,simprocAttr,go_b25,bodyOf,Tryz.f25,d25_at,RI,RIk,initE,RL,SE,h1,h32,wkl,RU3,e_h34,h35']
   refine J.eq ret_seq ?_
   conv=>arg 1;simp (maxSteps:=4000000) (disch:=first|exact Zd|fail) only[ZZ,d10_at,simprocAttr,go_b25,bodyOf,Tryz.f25,d25_at,RI,RIk,initE,RL,SE,h1,h32,wkl,RU3,e_h34,h35']
   refine J.joinS (λ(t:Int×Int×Int×(List Int)×(List Int)×(List Int)×(List Bool)×(List Int)×(List Int)×(List Int)×(List Bool)×(List Int)×(List Int)×(List Int)×(List Bool))=>([(0,.v (.int .i64 52)),(2,.arr 3 [.v (.int .i64 x42.fType),.arr x42.fDims.length (lm (ik .i64) x42.fDims),.arr x42.fF.length (lm (ik .u32) x42.fF),.arr x42.fI.length (lm (ik .i64) x42.fI),.arr x42.fB.length (lm (bk) x42.fB),.v (.int .i64 x43.fType),.arr x43.fDims.length (lm (ik .i64) x43.fDims),.arr x43.fF.length (lm (ik .u32) x43.fF),.arr x43.fI.length (lm (ik .i64) x43.fI),.arr x43.fB.length (lm (bk) x43.fB),.v (.int .i64 x44.fType),.arr x44.fDims.length (lm (ik .i64) x44.fDims),.arr x44.fF.length (lm (ik .u32) x44.fF),.arr x44.fI.length (lm (ik .i64) x44.fI),.arr x44.fB.length (lm (bk) x44.fB)]),(3,.v (.int .i64 x4)),(5,.ptr (0,5,0) 0 0),(10,.ptr (0,24,0) 0 0)],[((0,5,0),.bx true ([.v (.int .i64 x2.fAxis),.arr x2.fAxes.length (lm (ik .i64) x2.fAxes),.v (.bool x2.fHasAxes),.v (.bool x2.fKeep),.v (.bool x2.fNoop),.v (.bool x2.fLast),.v (.bool x2.fZero),.arr x2.fPerm.length (lm (ik .i64) x2.fPerm),.v (.bool x2.fHasPerm),.v (.int .u32 x2.fAlpha),.v (.int .u32 x2.fBeta),.v (.int .u32 x2.fEpsilon),.v (.bool x2.fLow),.v (.bool x2.fHigh),.v (.bool x2.fFmod),.v (.int .i64 x2.fTo),.v (.int .i64 0),.v (.bool x2.fTransA),.v (.bool x2.fTransB),.v (.int .i64 x2.fGroup),.arr x2.fKernel.length (lm (ik .i64) x2.fKernel),.arr x2.fStrides.length (lm (ik .i64) x2.fStrides),.arr x2.fPads.length (lm (ik .i64) x2.fPads),.arr x2.fDilations.length (lm (ik .i64) x2.fDilations),.v (.int .i64 x2.fAuto),.v (.bool x2.fCeil),.v (.bool x2.fCount),.v (.int .i64 x2.fBlock),.v (.int .i64 x2.fStart),.v (.int .i64 x2.fEnd),.v (.bool x2.fHasEnd),.v (.int .i64 x2.fValue.fType),.arr x2.fValue.fDims.length (lm (ik .i64) x2.fValue.fDims),.arr x2.fValue.fF.length (lm (ik .u32) x2.fValue.fF),.arr x2.fValue.fI.length (lm (ik .i64) x2.fValue.fI),.arr x2.fValue.fB.length (lm (bk) x2.fValue.fB)])),((0,24,0),.bx true ([.v (.int .i64 52),.v (.int .i64 x2.fAxis),.arr x2.fAxes.length (lm (ik .i64) x2.fAxes),.v (.bool x2.fHasAxes),.v (.bool x2.fKeep),.v (.bool x2.fNoop),.v (.bool x2.fLast),.v (.bool x2.fZero),.arr x2.fPerm.length (lm (ik .i64) x2.fPerm),.v (.bool x2.fHasPerm),.v (.int .u32 x2.fAlpha),.v (.int .u32 x2.fBeta),.v (.int .u32 x2.fEpsilon),.v (.bool x2.fLow),.v (.bool x2.fHigh),.v (.bool x2.fFmod),.v (.int .i64 x2.fTo),.v (.int .i64 0),.v (.bool x2.fTransA),.v (.bool x2.fTransB),.v (.int .i64 x2.fGroup),.arr x2.fKernel.length (lm (ik .i64) x2.fKernel),.arr x2.fStrides.length (lm (ik .i64) x2.fStrides),.arr x2.fPads.length (lm (ik .i64) x2.fPads),.arr x2.fDilations.length (lm (ik .i64) x2.fDilations),.v (.int .i64 x2.fAuto),.v (.bool x2.fCeil),.v (.bool x2.fCount),.v (.int .i64 x2.fBlock),.v (.int .i64 x2.fStart),.v (.int .i64 x2.fEnd),.v (.bool x2.fHasEnd),.v (.int .i64 x2.fValue.fType),.arr x2.fValue.fDims.length (lm (ik .i64) x2.fValue.fDims),.arr x2.fValue.fF.length (lm (ik .u32) x2.fValue.fF),.arr x2.fValue.fI.length (lm (ik .i64) x2.fValue.fI),.arr x2.fValue.fB.length (lm (bk) x2.fValue.fB),.own (0,10,115) 0 3 3,.v (.int .i64 0),.v (.slice none 0 0),.v (.slice none 0 0),.v (.slice none 0 0),.v (.slice none 0 0),.v (.int .i64 0)])),((0,10,115),.sl false true 5 3 ([.v (.int .i64 t.1),.own (0,45,0) 0 t.2.2.2.1.length t.2.2.2.1.length,.own (0,45,1) 0 t.2.2.2.2.1.length t.2.2.2.2.1.length,.own (0,45,2) 0 t.2.2.2.2.2.1.length t.2.2.2.2.2.1.length,.own (0,45,3) 0 t.2.2.2.2.2.2.1.length t.2.2.2.2.2.2.1.length,.v (.int .i64 t.2.1),.own (0,45,100) 0 t.2.2.2.2.2.2.2.1.length t.2.2.2.2.2.2.2.1.length,.own (0,45,101) 0 t.2.2.2.2.2.2.2.2.1.length t.2.2.2.2.2.2.2.2.1.length,.own (0,45,102) 0 t.2.2.2.2.2.2.2.2.2.1.length t.2.2.2.2.2.2.2.2.2.1.length,.own (0,45,103) 0 t.2.2.2.2.2.2.2.2.2.2.1.length t.2.2.2.2.2.2.2.2.2.2.1.length,.v (.int .i64 t.2.2.1),.own (0,45,200) 0 t.2.2.2.2.2.2.2.2.2.2.2.1.length t.2.2.2.2.2.2.2.2.2.2.2.1.length,.own (0,45,201) 0 t.2.2.2.2.2.2.2.2.2.2.2.2.1.length t.2.2.2.2.2.2.2.2.2.2.2.2.1.length,.own (0,45,202) 0 t.2.2.2.2.2.2.2.2.2.2.2.2.2.1.length t.2.2.2.2.2.2.2.2.2.2.2.2.2.1.length,.own (0,45,203) 0 t.2.2.2.2.2.2.2.2.2.2.2.2.2.2.length t.2.2.2.2.2.2.2.2.2.2.2.2.2.2.length])),((0,45,0),.sl true true 1 t.2.2.2.1.length (lm (ik .i64) t.2.2.2.1)),((0,45,1),.sl true true 1 t.2.2.2.2.1.length (lm (ik .u32) t.2.2.2.2.1)),((0,45,2),.sl true true 1 t.2.2.2.2.2.1.length (lm (ik .i64) t.2.2.2.2.2.1)),((0,45,3),.sl true true 1 t.2.2.2.2.2.2.1.length (lm (bk) t.2.2.2.2.2.2.1)),((0,45,100),.sl true true 1 t.2.2.2.2.2.2.2.1.length (lm (ik .i64) t.2.2.2.2.2.2.2.1)),((0,45,101),.sl true true 1 t.2.2.2.2.2.2.2.2.1.length (lm (ik .u32) t.2.2.2.2.2.2.2.2.1)),((0,45,102),.sl true true 1 t.2.2.2.2.2.2.2.2.2.1.length (lm (ik .i64) t.2.2.2.2.2.2.2.2.2.1)),((0,45,103),.sl true true 1 t.2.2.2.2.2.2.2.2.2.2.1.length (lm (bk) t.2.2.2.2.2.2.2.2.2.2.1)),((0,45,200),.sl true true 1 t.2.2.2.2.2.2.2.2.2.2.2.1.length (lm (ik .i64) t.2.2.2.2.2.2.2.2.2.2.2.1)),((0,45,201),.sl true true 1 t.2.2.2.2.2.2.2.2.2.2.2.2.1.length (lm (ik .u32) t.2.2.2.2.2.2.2.2.2.2.2.2.1)),((0,45,202),.sl true true 1 t.2.2.2.2.2.2.2.2.2.2.2.2.2.1.length (lm (ik .i64) t.2.2.2.2.2.2.2.2.2.2.2.2.2.1)),((0,45,203),.sl true true 1 t.2.2.2.2.2.2.2.2.2.2.2.2.2.2.length (lm (bk) t.2.2.2.2.2.2.2.2.2.2.2.2.2.2))])) (λt=>moves_Do.k3 fu x2 x4 x42 x43 x44 t.1 t.2.1 t.2.2.1 t.2.2.2.1 t.2.2.2.2.1 t.2.2.2.2.2.1 t.2.2.2.2.2.2.1 t.2.2.2.2.2.2.2.1 t.2.2.2.2.2.2.2.2.1 t.2.2.2.2.2.2.2.2.2.1 t.2.2.2.2.2.2.2.2.2.2.1 t.2.2.2.2.2.2.2.2.2.2.2.1 t.2.2.2.2.2.2.2.2.2.2.2.2.1 t.2.2.2.2.2.2.2.2.2.2.2.2.2.1 t.2.2.2.2.2.2.2.2.2.2.2.2.2.2) ?_ (λhj3=> ?_)
   ·rintro⟨x46,x47,x48,x49,x50,x51,x52,x53,x54,x55,x56,x57,x58,x59,x60⟩
    show J _ (moves_Do.k3 fu x2 x4 x42 x43 x44 x46 x47 x48 x49 x50 x51 x52 x53 x54 x55 x56 x57 x58 x59 x60) _
    unfold moves_Do.k3
    refine J.bind λx61 h36=> ?_
    have e_h36:=H21_0 _ _ h36
    try simp only[NN,NT,LN,simprocAttr,DT]at e_h36
    refine J.bind λx62 h37=> ?_
    have e_h37:=H20_0 _ _ _ _ _ h37
    try simp only[NN,NT,LN,simprocAttr,DT]at e_h37
    conv=>arg 1;simp (maxSteps:=4000000) (disch:=first|exact Zd|fail) only[ZZ,d10_at,simprocAttr,go_b25,bodyOf,Tryz.f25,d25_at,RI,RIk,initE,RL,SE,h1,h32,wkl,RU3,e_h34,h35',e_h36,e_h37]
    refine J.eq go_seq ?_
    conv=>arg 1;simp (maxSteps:=4000000) (disch:=first|exact Zd|fail) only[ZZ,d10_at,simprocAttr,go_b25,bodyOf,Tryz.f25,d25_at,RI,RIk,initE,RL,SE,h1,h32,wkl,RU3,e_h34,h35',e_h36,e_h37]
    refine J.ite (λh38=> ?_) (λh38=> ?_)
    ·have h38':=decide_eq_true h38
     conv=>arg 1;simp (maxSteps:=4000000) (disch:=first|exact Zd|fail) only[ZZ,d10_at,simprocAttr,go_b25,bodyOf,Tryz.f25,d25_at,RI,RIk,initE,RL,SE,h1,h32,wkl,RU3,e_h34,h35',e_h36,e_h37,h38']
     refine J.eq ret_seq ?_
     refine J.bind λx63 h39=> ?_
     have e_h39:=H22_0 _ _ _ h39
     try simp only[NN,NT,LN,simprocAttr,DT]at e_h39
     conv=>arg 1;simp (maxSteps:=4000000) (disch:=first|exact Zd|fail) only[ZZ,d10_at,simprocAttr,go_b25,bodyOf,Tryz.f25,d25_at,RI,RIk,initE,RL,SE,h1,h32,wkl,RU3,e_h34,h35',e_h36,e_h37,h38',e_h39]
     refine J.joinS (λ(t:List Int)=>([(0,.v (.int .i64 52)),(10,.ptr (0,24,0) 0 0),(14,.arr x62.1.length (fm c_T_Val x62.1)),(16,.own (0,99,0) 0 t.length t.length)],[((0,24,0),.bx true ([.v (.int .i64 52),.v (.int .i64 x2.fAxis),.arr x2.fAxes.length (lm (ik .i64) x2.fAxes),.v (.bool x2.fHasAxes),.v (.bool x2.fKeep),.v (.bool x2.fNoop),.v (.bool x2.fLast),.v (.bool x2.fZero),.arr x2.fPerm.length (lm (ik .i64) x2.fPerm),.v (.bool x2.fHasPerm),.v (.int .u32 x2.fAlpha),.v (.int .u32 x2.fBeta),.v (.int .u32 x2.fEpsilon),.v (.bool x2.fLow),.v (.bool x2.fHigh),.v (.bool x2.fFmod),.v (.int .i64 x2.fTo),.v (.int .i64 0),.v (.bool x2.fTransA),.v (.bool x2.fTransB),.v (.int .i64 x2.fGroup),.arr x2.fKernel.length (lm (ik .i64) x2.fKernel),.arr x2.fStrides.length (lm (ik .i64) x2.fStrides),.arr x2.fPads.length (lm (ik .i64) x2.fPads),.arr x2.fDilations.length (lm (ik .i64) x2.fDilations),.v (.int .i64 x2.fAuto),.v (.bool x2.fCeil),.v (.bool x2.fCount),.v (.int .i64 x2.fBlock),.v (.int .i64 x2.fStart),.v (.int .i64 x2.fEnd),.v (.bool x2.fHasEnd),.v (.int .i64 x2.fValue.fType),.arr x2.fValue.fDims.length (lm (ik .i64) x2.fValue.fDims),.arr x2.fValue.fF.length (lm (ik .u32) x2.fValue.fF),.arr x2.fValue.fI.length (lm (ik .i64) x2.fValue.fI),.arr x2.fValue.fB.length (lm (bk) x2.fValue.fB),.own (0,10,115) 0 3 3,.v (.int .i64 x46),.own (0,45,0) 0 x49.length x49.length,.own (0,45,1) 0 x50.length x50.length,.own (0,45,2) 0 x51.length x51.length,.own (0,45,3) 0 x52.length x52.length,.v (.int .i64 x63.1)])),((0,10,115),.sl false true 5 3 ([.v (.int .i64 x46),.own (0,45,0) 0 x49.length x49.length,.own (0,45,1) 0 x50.length x50.length,.own (0,45,2) 0 x51.length x51.length,.own (0,45,3) 0 x52.length x52.length,.v (.int .i64 x47),.own (0,45,100) 0 x53.length x53.length,.own (0,45,101) 0 x54.length x54.length,.own (0,45,102) 0 x55.length x55.length,.own (0,45,103) 0 x56.length x56.length,.v (.int .i64 x48),.own (0,45,200) 0 x57.length x57.length,.own (0,45,201) 0 x58.length x58.length,.own (0,45,202) 0 x59.length x59.length,.own (0,45,203) 0 x60.length x60.length])),((0,45,0),.sl true true 1 x49.length (lm (ik .i64) x49)),((0,45,1),.sl true true 1 x50.length (lm (ik .u32) x50)),((0,45,2),.sl true true 1 x51.length (lm (ik .i64) x51)),((0,45,3),.sl true true 1 x52.length (lm (bk) x52)),((0,45,100),.sl true true 1 x53.length (lm (ik .i64) x53)),((0,45,101),.sl true true 1 x54.length (lm (ik .u32) x54)),((0,45,102),.sl true true 1 x55.length (lm (ik .i64) x55)),((0,45,103),.sl true true 1 x56.length (lm (bk) x56)),((0,45,200),.sl true true 1 x57.length (lm (ik .i64) x57)),((0,45,201),.sl true true 1 x58.length (lm (ik .u32) x58)),((0,45,202),.sl true true 1 x59.length (lm (ik .i64) x59)),((0,45,203),.sl true true 1 x60.length (lm (bk) x60)),((0,99,0),.sl true true 1 t.length (lm (ik .i64) t))])) (λt=>moves_Do.k4 fu x2 x46 x47 x48 x49 x50 x51 x52 x53 x54 x55 x56 x57 x58 x59 x60 x62 x63 t) ?_ (λhj4=> ?_)
     ·rintro x64
      show J _ (moves_Do.k4 fu x2 x46 x47 x48 x49 x50 x51 x52 x53 x54 x55 x56 x57 x58 x59 x60 x62 x63 x64) _
      unfold moves_Do.k4
      refine J.eq go_seq ?_
      conv=>arg 1;simp (maxSteps:=4000000) (disch:=first|exact Zd|fail) only[ZZ,d10_at,simprocAttr,go_b25,bodyOf,Tryz.f25,d25_at,RI,RIk,initE,RL,SE,h1,h32,wkl,RU3,e_h34,h35',e_h36,e_h37,h38',e_h39]
      refine J.eq ret_seq ?_
      refine J.at λx65 h40 h41 h42=> ?_
      replace h42:x62.1[0]? =some x65:=h42
      have h42k:=fm_cut c_T_Val_len h42
      have h42f:=fm_fit c_T_Val_len h42
      have h42a0:=fm_at (j:=0) c_T_Val_len h42 (by decide)
      have h42a1:=fm_at (j:=1) c_T_Val_len h42 (by decide)
      have h42a2:=fm_at (j:=2) c_T_Val_len h42 (by decide)
      have h42a3:=fm_at (j:=3) c_T_Val_len h42 (by decide)
      have h42a4:=fm_at (j:=4) c_T_Val_len h42 (by decide)
      have h42a5:=fm_at (j:=5) c_T_Val_len h42 (by decide)
      have h42a6:=fm_at (j:=6) c_T_Val_len h42 (by decide)
      have h42a7:=fm_at (j:=7) c_T_Val_len h42 (by decide)
      simp only[simprocAttr,Nat.zero_mul,Nat.zero_add,Nat.add_zero,List.drop_zero]at h42k h42f h42a0 h42a1 h42a2 h42a3 h42a4 h42a5 h42a6 h42a7
      conv=>arg 1;simp (maxSteps:=4000000) (disch:=first|exact Zd|fail) only[ZZ,d10_at,simprocAttr,go_b25,bodyOf,Tryz.f25,d25_at,go_b51,bodyOf,Tryz.f51,d51_at,RI,RIk,initE,RL,SE,h1,h32,wkl,RU3,e_h34,h35',e_h36,e_h37,h38',e_h39,h42k,h42f,h42a0,h42a1,h42a2,h42a3,h42a4,h42a5,h42a6,h42a7]
      refine J.eq go_seq ?_
      conv=>arg 1;simp (maxSteps:=4000000) (disch:=first|exact Zd|fail) only[ZZ,d10_at,simprocAttr,go_b25,bodyOf,Tryz.f25,d25_at,go_b51,bodyOf,Tryz.f51,d51_at,RI,RIk,initE,RL,SE,h1,h32,wkl,RU3,e_h34,h35',e_h36,e_h37,h38',e_h39,h42k,h42f,h42a0,h42a1,h42a2,h42a3,h42a4,h42a5,h42a6,h42a7]
      refine J.eq go_seq ?_
      refine J.bind λx66 h43=> ?_
      have e_h43:=H50_0 _ _ _ h43
      try simp only[NN,NT,LN,simprocAttr,DT]at e_h43
      conv=>arg 1;simp (maxSteps:=4000000) (disch:=first|exact Zd|fail) only[ZZ,d10_at,simprocAttr,go_b25,bodyOf,Tryz.f25,d25_at,go_b51,bodyOf,Tryz.f51,d51_at,RI,RIk,initE,RL,SE,h1,h32,wkl,RU3,e_h34,h35',e_h36,e_h37,h38',e_h39,h42k,h42f,h42a0,h42a1,h42a2,h42a3,h42a4,h42a5,h42a6,h42a7,e_h43]
      unfold moves_Do.W1
      refine J.loop (λ(s:(List Int)×(List Int)×(List Bool)×Int)=>([(0,.ptr (0,24,0) 0 0),(4,.ptr (2,4,0) 0 0),(5,.ptr (2,5,0) 0 0),(6,.ptr (2,6,0) 0 0),(21,.own (2,21,0) 0 x66.length x66.length),(22,.v (.int .i64 (x66.length:Int))),(23,.v (.int .i64 s.2.2.2))],[((0,24,0),.bx true ([.v (.int .i64 52),.v (.int .i64 x2.fAxis),.arr x2.fAxes.length (lm (ik .i64) x2.fAxes),.v (.bool x2.fHasAxes),.v (.bool x2.fKeep),.v (.bool x2.fNoop),.v (.bool x2.fLast),.v (.bool x2.fZero),.arr x2.fPerm.length (lm (ik .i64) x2.fPerm),.v (.bool x2.fHasPerm),.v (.int .u32 x2.fAlpha),.v (.int .u32 x2.fBeta),.v (.int .u32 x2.fEpsilon),.v (.bool x2.fLow),.v (.bool x2.fHigh),.v (.bool x2.fFmod),.v (.int .i64 x2.fTo),.v (.int .i64 0),.v (.bool x2.fTransA),.v (.bool x2.fTransB),.v (.int .i64 x2.fGroup),.arr x2.fKernel.length (lm (ik .i64) x2.fKernel),.arr x2.fStrides.length (lm (ik .i64) x2.fStrides),.arr x2.fPads.length (lm (ik .i64) x2.fPads),.arr x2.fDilations.length (lm (ik .i64) x2.fDilations),.v (.int .i64 x2.fAuto),.v (.bool x2.fCeil),.v (.bool x2.fCount),.v (.int .i64 x2.fBlock),.v (.int .i64 x2.fStart),.v (.int .i64 x2.fEnd),.v (.bool x2.fHasEnd),.v (.int .i64 x2.fValue.fType),.arr x2.fValue.fDims.length (lm (ik .i64) x2.fValue.fDims),.arr x2.fValue.fF.length (lm (ik .u32) x2.fValue.fF),.arr x2.fValue.fI.length (lm (ik .i64) x2.fValue.fI),.arr x2.fValue.fB.length (lm (bk) x2.fValue.fB),.own (0,10,115) 0 3 3,.v (.int .i64 x46),.own (0,45,0) 0 x49.length x49.length,.own (0,45,1) 0 x50.length x50.length,.own (0,45,2) 0 x51.length x51.length,.own (0,45,3) 0 x52.length x52.length,.v (.int .i64 x63.1)])),((0,10,115),.sl false true 5 3 ([.v (.int .i64 x46),.own (0,45,0) 0 x49.length x49.length,.own (0,45,1) 0 x50.length x50.length,.own (0,45,2) 0 x51.length x51.length,.own (0,45,3) 0 x52.length x52.length,.v (.int .i64 x47),.own (0,45,100) 0 x53.length x53.length,.own (0,45,101) 0 x54.length x54.length,.own (0,45,102) 0 x55.length x55.length,.own (0,45,103) 0 x56.length x56.length,.v (.int .i64 x48),.own (0,45,200) 0 x57.length x57.length,.own (0,45,201) 0 x58.length x58.length,.own (0,45,202) 0 x59.length x59.length,.own (0,45,203) 0 x60.length x60.length])),((0,45,0),.sl true true 1 x49.length (lm (ik .i64) x49)),((0,45,1),.sl true true 1 x50.length (lm (ik .u32) s.1)),((0,45,2),.sl true true 1 x51.length (lm (ik .i64) s.2.1)),((0,45,3),.sl true true 1 x52.length (lm (bk) s.2.2.1)),((0,45,100),.sl true true 1 x53.length (lm (ik .i64) x53)),((0,45,101),.sl true true 1 x54.length (lm (ik .u32) x54)),((0,45,102),.sl true true 1 x55.length (lm (ik .i64) x55)),((0,45,103),.sl true true 1 x56.length (lm (bk) x56)),((0,45,200),.sl true true 1 x57.length (lm (ik .i64) x57)),((0,45,201),.sl true true 1 x58.length (lm (ik .u32) x58)),((0,45,202),.sl true true 1 x59.length (lm (ik .i64) x59)),((0,45,203),.sl true true 1 x60.length (lm (bk) x60)),((0,99,0),.sl true true 1 x64.length (lm (ik .i64) x64)),((1,6,0),.bx true ([.v (.int .i64 0),.v (.slice none 0 0),.v (.slice none 0 0),.v (.slice none 0 0),.v (.slice none 0 0)])),((2,4,0),.bx true ([.v (.int .i64 0),.v (.slice none 0 0),.v (.slice none 0 0),.v (.slice none 0 0),.v (.slice none 0 0)])),((2,5,0),.bx true ([.v (.int .i64 x46),.own (0,45,0) 0 x49.length x49.length,.own (0,45,1) 0 x50.length x50.length,.own (0,45,2) 0 x51.length x51.length,.own (0,45,3) 0 x52.length x52.length])),((2,6,0),.bx true ([.v (.int .i64 x48),.own (0,45,200) 0 x57.length x57.length,.own (0,45,201) 0 x58.length x58.length,.own (0,45,202) 0 x59.length x59.length,.own (0,45,203) 0 x60.length x60.length])),((2,21,0),.sl true true 1 x66.length (lm (ik .i64) x66))])) (λnext s=>moves_Do.L1 fu x46 x49 x50 x51 x52 x58 x59 x60 x66 (λx71 x72 x73 x74=>next (x71,x72,x73,x74)) s.1 s.2.1 s.2.2.1 s.2.2.2) (s0:=(x50,x51,x52,0)) ?_ ?_ ?_
      ·exact Ze
      ·exact Zh
      rintro next k1 hn1 ⟨x71,x72,x73,x74⟩
      let nx1:(List Int)->(List Int)->(List Bool)->Int->Option ((List T_Tensor)×Int):=(λx71 x72 x73 x74=>next (x71,x72,x73,x74))
      show J _ (moves_Do.L1 fu x46 x49 x50 x51 x52 x58 x59 x60 x66 nx1 x71 x72 x73 x74) _
      unfold moves_Do.L1
      refine J.chk λh44=> ?_
      refine J.chk λh45=> ?_
      refine J.chk λh46=> ?_
      conv=>arg 1;simp (maxSteps:=4000000) (disch:=first|exact Zd|fail) only[ZZ,d10_at,simprocAttr,go_b25,bodyOf,Tryz.f25,d25_at,go_b51,bodyOf,Tryz.f51,d51_at,RI,RIk,initE,RL,SE,h1,h32,wkl,RU3,e_h34,h35',e_h36,e_h37,h38',e_h39,h42k,h42f,h42a0,h42a1,h42a2,h42a3,h42a4,h42a5,h42a6,h42a7,e_h43,h44,h45,h46]
      refine J.eq go_seq ?_
      conv=>arg 1;simp (maxSteps:=4000000) (disch:=first|exact Zd|fail) only[ZZ,d10_at,simprocAttr,go_b25,bodyOf,Tryz.f25,d25_at,go_b51,bodyOf,Tryz.f51,d51_at,RI,RIk,initE,RL,SE,h1,h32,wkl,RU3,e_h34,h35',e_h36,e_h37,h38',e_h39,h42k,h42f,h42a0,h42a1,h42a2,h42a3,h42a4,h42a5,h42a6,h42a7,e_h43,h44,h45,h46]
      refine J.ite (λh47=> ?_) (λh47=> ?_)
      ·have h47':=decide_eq_true h47
       have h47'':decide ((x66.length:Int)<=x74)=false:=decide_eq_false (by omega)
       conv=>arg 1;simp (maxSteps:=4000000) (disch:=first|exact Zd|fail) only[ZZ,d10_at,simprocAttr,go_b25,bodyOf,Tryz.f25,d25_at,go_b51,bodyOf,Tryz.f51,d51_at,RI,RIk,initE,RL,SE,h1,h32,wkl,RU3,e_h34,h35',e_h36,e_h37,h38',e_h39,h42k,h42f,h42a0,h42a1,h42a2,h42a3,h42a4,h42a5,h42a6,h42a7,e_h43,h44,h45,h46,h47'',h47']
       refine J.eq ret_seq ?_
       refine J.eq go_seq ?_
       refine J.at λx79 h48 h49 h50=> ?_
       conv=>arg 1;simp (maxSteps:=4000000) (disch:=first|exact Zd|fail) only[ZZ,d10_at,simprocAttr,go_b25,bodyOf,Tryz.f25,d25_at,go_b51,bodyOf,Tryz.f51,d51_at,RI,RIk,initE,RL,SE,h1,h32,wkl,RU3,e_h34,h35',e_h36,e_h37,h38',e_h39,h42k,h42f,h42a0,h42a1,h42a2,h42a3,h42a4,h42a5,h42a6,h42a7,e_h43,h44,h45,h46,h47'',h47',lm_ik h50]
       refine J.ite (λh51=> ?_) (λh51=> ?_)
       ·have h51':=decide_eq_true h51
        refine J.at λx80 h52 h53 h54=> ?_
        refine J.chk λh55=> ?_
        conv=>arg 1;simp (maxSteps:=4000000) (disch:=first|exact Zd|fail) only[ZZ,d10_at,simprocAttr,go_b25,bodyOf,Tryz.f25,d25_at,go_b51,bodyOf,Tryz.f51,d51_at,RI,RIk,initE,RL,SE,h1,h32,wkl,RU3,e_h34,h35',e_h36,e_h37,h38',e_h39,h42k,h42f,h42a0,h42a1,h42a2,h42a3,h42a4,h42a5,h42a6,h42a7,e_h43,h44,h45,h46,h47'',h47',lm_ik h50,h51',lm_bk h54]
        refine J.eq ret_seq ?_
        conv=>arg 1;simp (maxSteps:=4000000) (disch:=first|exact Zd|fail) only[ZZ,d10_at,simprocAttr,go_b25,bodyOf,Tryz.f25,d25_at,go_b51,bodyOf,Tryz.f51,d51_at,RI,RIk,initE,RL,SE,h1,h32,wkl,RU3,e_h34,h35',e_h36,e_h37,h38',e_h39,h42k,h42f,h42a0,h42a1,h42a2,h42a3,h42a4,h42a5,h42a6,h42a7,e_h43,h44,h45,h46,h47'',h47',lm_ik h50,h51',lm_bk h54]
        refine J.next (s:=(x71,x72,x73.set x79.toNat x80,wk .i64 (x74+1))) hn1 ?_ ?_
        ·first|(simp only[h44,h45,h46];done)|((try simp only[h44,h45,h46]);exact Ze)
        ·first|(simp only[h44,h45,h46];done)|((try simp only[h44,h45,h46]);exact Zh)
       ·have h51':=decide_eq_false h51
        conv=>arg 1;simp (maxSteps:=4000000) (disch:=first|exact Zd|fail) only[ZZ,d10_at,simprocAttr,go_b25,bodyOf,Tryz.f25,d25_at,go_b51,bodyOf,Tryz.f51,d51_at,RI,RIk,initE,RL,SE,h1,h32,wkl,RU3,e_h34,h35',e_h36,e_h37,h38',e_h39,h42k,h42f,h42a0,h42a1,h42a2,h42a3,h42a4,h42a5,h42a6,h42a7,e_h43,h44,h45,h46,h47'',h47',lm_ik h50,h51']
        refine J.eq go_seq ?_
        conv=>arg 1;simp (maxSteps:=4000000) (disch:=first|exact Zd|fail) only[ZZ,d10_at,simprocAttr,go_b25,bodyOf,Tryz.f25,d25_at,go_b51,bodyOf,Tryz.f51,d51_at,RI,RIk,initE,RL,SE,h1,h32,wkl,RU3,e_h34,h35',e_h36,e_h37,h38',e_h39,h42k,h42f,h42a0,h42a1,h42a2,h42a3,h42a4,h42a5,h42a6,h42a7,e_h43,h44,h45,h46,h47'',h47',lm_ik h50,h51']
        refine J.ite (λh56=> ?_) (λh56=> ?_)
        ·have h56':=decide_eq_true h56
         conv=>arg 1;simp (maxSteps:=4000000) (disch:=first|exact Zd|fail) only[ZZ,d10_at,simprocAttr,go_b25,bodyOf,Tryz.f25,d25_at,go_b51,bodyOf,Tryz.f51,d51_at,RI,RIk,initE,RL,SE,h1,h32,wkl,RU3,e_h34,h35',e_h36,e_h37,h38',e_h39,h42k,h42f,h42a0,h42a1,h42a2,h42a3,h42a4,h42a5,h42a6,h42a7,e_h43,h44,h45,h46,h47'',h47',lm_ik h50,h51',h56']
         refine J.eq ret_seq ?_
         conv=>arg 1;simp (maxSteps:=4000000) (disch:=first|exact Zd|fail) only[ZZ,d10_at,simprocAttr,go_b25,bodyOf,Tryz.f25,d25_at,go_b51,bodyOf,Tryz.f51,d51_at,RI,RIk,initE,RL,SE,h1,h32,wkl,RU3,e_h34,h35',e_h36,e_h37,h38',e_h39,h42k,h42f,h42a0,h42a1,h42a2,h42a3,h42a4,h42a5,h42a6,h42a7,e_h43,h44,h45,h46,h47'',h47',lm_ik h50,h51',h56']
         refine J.eq go_seq ?_
         conv=>arg 1;simp (maxSteps:=4000000) (disch:=first|exact Zd|fail) only[ZZ,d10_at,simprocAttr,go_b25,bodyOf,Tryz.f25,d25_at,go_b51,bodyOf,Tryz.f51,d51_at,RI,RIk,initE,RL,SE,h1,h32,wkl,RU3,e_h34,h35',e_h36,e_h37,h38',e_h39,h42k,h42f,h42a0,h42a1,h42a2,h42a3,h42a4,h42a5,h42a6,h42a7,e_h43,h44,h45,h46,h47'',h47',lm_ik h50,h51',h56']
         refine J.eq ret_seq ?_
         refine J.at λx81 h57 h58 h59=> ?_
         refine J.chk λh60=> ?_
         conv=>arg 1;simp (maxSteps:=4000000) (disch:=first|exact Zd|fail) only[ZZ,d10_at,simprocAttr,go_b25,bodyOf,Tryz.f25,d25_at,go_b51,bodyOf,Tryz.f51,d51_at,RI,RIk,initE,RL,SE,h1,h32,wkl,RU3,e_h34,h35',e_h36,e_h37,h38',e_h39,h42k,h42f,h42a0,h42a1,h42a2,h42a3,h42a4,h42a5,h42a6,h42a7,e_h43,h44,h45,h46,h47'',h47',lm_ik h50,h51',h56',lm_ik h59]
         refine J.eq ret_seq ?_
         conv=>arg 1;simp (maxSteps:=4000000) (disch:=first|exact Zd|fail) only[ZZ,d10_at,simprocAttr,go_b25,bodyOf,Tryz.f25,d25_at,go_b51,bodyOf,Tryz.f51,d51_at,RI,RIk,initE,RL,SE,h1,h32,wkl,RU3,e_h34,h35',e_h36,e_h37,h38',e_h39,h42k,h42f,h42a0,h42a1,h42a2,h42a3,h42a4,h42a5,h42a6,h42a7,e_h43,h44,h45,h46,h47'',h47',lm_ik h50,h51',h56',lm_ik h59]
         refine J.next (s:=(x71,x72.set x79.toNat x81,x73,wk .i64 (x74+1))) hn1 ?_ ?_
         ·first|(simp only[h44,h45,h46];done)|((try simp only[h44,h45,h46]);exact Ze)
         ·first|(simp only[h44,h45,h46];done)|((try simp only[h44,h45,h46]);exact Zh)
        ·have h56':=decide_eq_false h56
         conv=>arg 1;simp (maxSteps:=4000000) (disch:=first|exact Zd|fail) only[ZZ,d10_at,simprocAttr,go_b25,bodyOf,Tryz.f25,d25_at,go_b51,bodyOf,Tryz.f51,d51_at,RI,RIk,initE,RL,SE,h1,h32,wkl,RU3,e_h34,h35',e_h36,e_h37,h38',e_h39,h42k,h42f,h42a0,h42a1,h42a2,h42a3,h42a4,h42a5,h42a6,h42a7,e_h43,h44,h45,h46,h47'',h47',lm_ik h50,h51',h56']
         refine J.eq ret_seq ?_
         conv=>arg 1;simp (maxSteps:=4000000) (disch:=first|exact Zd|fail) only[ZZ,d10_at,simprocAttr,go_b25,bodyOf,Tryz.f25,d25_at,go_b51,bodyOf,Tryz.f51,d51_at,RI,RIk,initE,RL,SE,h1,h32,wkl,RU3,e_h34,h35',e_h36,e_h37,h38',e_h39,h42k,h42f,h42a0,h42a1,h42a2,h42a3,h42a4,h42a5,h42a6,h42a7,e_h43,h44,h45,h46,h47'',h47',lm_ik h50,h51',h56']
         refine J.eq go_seq ?_
         conv=>arg 1;simp (maxSteps:=4000000) (disch:=first|exact Zd|fail) only[ZZ,d10_at,simprocAttr,go_b25,bodyOf,Tryz.f25,d25_at,go_b51,bodyOf,Tryz.f51,d51_at,RI,RIk,initE,RL,SE,h1,h32,wkl,RU3,e_h34,h35',e_h36,e_h37,h38',e_h39,h42k,h42f,h42a0,h42a1,h42a2,h42a3,h42a4,h42a5,h42a6,h42a7,e_h43,h44,h45,h46,h47'',h47',lm_ik h50,h51',h56']
         refine J.eq ret_seq ?_
         refine J.at λx82 h61 h62 h63=> ?_
         refine J.chk λh64=> ?_
         conv=>arg 1;simp (maxSteps:=4000000) (disch:=first|exact Zd|fail) only[ZZ,d10_at,simprocAttr,go_b25,bodyOf,Tryz.f25,d25_at,go_b51,bodyOf,Tryz.f51,d51_at,RI,RIk,initE,RL,SE,h1,h32,wkl,RU3,e_h34,h35',e_h36,e_h37,h38',e_h39,h42k,h42f,h42a0,h42a1,h42a2,h42a3,h42a4,h42a5,h42a6,h42a7,e_h43,h44,h45,h46,h47'',h47',lm_ik h50,h51',h56',lm_ik h63]
         refine J.eq ret_seq ?_
         conv=>arg 1;simp (maxSteps:=4000000) (disch:=first|exact Zd|fail) only[ZZ,d10_at,simprocAttr,go_b25,bodyOf,Tryz.f25,d25_at,go_b51,bodyOf,Tryz.f51,d51_at,RI,RIk,initE,RL,SE,h1,h32,wkl,RU3,e_h34,h35',e_h36,e_h37,h38',e_h39,h42k,h42f,h42a0,h42a1,h42a2,h42a3,h42a4,h42a5,h42a6,h42a7,e_h43,h44,h45,h46,h47'',h47',lm_ik h50,h51',h56',lm_ik h63]
         refine J.next (s:=(x71.set x79.toNat x82,x72,x73,wk .i64 (x74+1))) hn1 ?_ ?_
         ·first|(simp only[h44,h45,h46];done)|((try simp only[h44,h45,h46]);exact Ze)
         ·first|(simp only[h44,h45,h46];done)|((try simp only[h44,h45,h46]);exact Zh)
      ·have h47':=decide_eq_false h47
       have h47'':decide ((x66.length:Int)<=x74)=true:=decide_eq_true (by omega)
       conv=>arg 1;simp (maxSteps:=4000000) (disch:=first|exact Zd|fail) only[ZZ,d10_at,simprocAttr,go_b25,bodyOf,Tryz.f25,d25_at,go_b51,bodyOf,Tryz.f51,d51_at,RI,RIk,initE,RL,SE,h1,h32,wkl,RU3,e_h34,h35',e_h36,e_h37,h38',e_h39,h42k,h42f,h42a0,h42a1,h42a2,h42a3,h42a4,h42a5,h42a6,h42a7,e_h43,h44,h45,h46,h47'',h47']
       refine J.eq ret_seq ?_
       refine J.some ?_
       simp (maxSteps:=20000000) (disch:=first|exact Zd|fail) only[ZZ,d10_at,simprocAttr,go_b25,bodyOf,Tryz.f25,d25_at,go_b51,bodyOf,Tryz.f51,d51_at,RI,RIk,initE,RL,SE,h1,h32,wkl,RU3,e_h34,h35',e_h36,e_h37,h38',e_h39,h42k,h42f,h42a0,h42a1,h42a2,h42a3,h42a4,h42a5,h42a6,h42a7,e_h43,h44,h45,h46,h47'',h47',FN]
     ·refine J.hd jn_at ?_
      refine J.eq go_seq ?_
      conv=>arg 1;simp (maxSteps:=4000000) (disch:=first|exact Zd|fail) only[ZZ,d10_at,simprocAttr,go_b25,bodyOf,Tryz.f25,d25_at,go_b51,bodyOf,Tryz.f51,d51_at,RI,RIk,initE,RL,SE,h1,h32,wkl,RU3,e_h34,h35',e_h36,e_h37,h38',e_h39]
      refine J.eq ret_seq ?_
      refine J.bind λx83 h65=> ?_
      have e_h65:=H23_0 _ _ h65
      try simp only[NN,NT,LN,simprocAttr,DT]at e_h65
      conv=>arg 1;simp (maxSteps:=4000000) (disch:=first|exact Zd|fail) only[ZZ,d10_at,simprocAttr,go_b25,bodyOf,Tryz.f25,d25_at,go_b51,bodyOf,Tryz.f51,d51_at,RI,RIk,initE,RL,SE,h1,h32,wkl,RU3,e_h34,h35',e_h36,e_h37,h38',e_h39,e_h65]
      refine J.ite (λh66=> ?_) (λh66=> ?_)
      ·have h66':x83.2=true:=h66
       conv=>arg 1;simp (maxSteps:=4000000) (disch:=first|exact Zd|fail) only[ZZ,d10_at,simprocAttr,go_b25,bodyOf,Tryz.f25,d25_at,go_b51,bodyOf,Tryz.f51,d51_at,RI,RIk,initE,RL,SE,h1,h32,wkl,RU3,e_h34,h35',e_h36,e_h37,h38',e_h39,e_h65,h66']
       refine J.jmp (t:=x83.1) hj4 ?_ ?_
       ·exact Ze
       ·exact Zh
      ·have h66':x83.2=false:=Bool.eq_false_iff.2 h66
       refine J.some ?_
       simp (maxSteps:=20000000) (disch:=first|exact Zd|fail) only[ZZ,d10_at,simprocAttr,go_b25,bodyOf,Tryz.f25,d25_at,go_b51,bodyOf,Tryz.f51,d51_at,RI,RIk,initE,RL,SE,h1,h32,wkl,RU3,e_h34,h35',e_h36,e_h37,h38',e_h39,e_h65,h66',FN]
    ·have h38':=decide_eq_false h38
     refine J.some ?_
     simp (maxSteps:=20000000) (disch:=first|exact Zd|fail) only[ZZ,d10_at,simprocAttr,go_b25,bodyOf,Tryz.f25,d25_at,go_b51,bodyOf,Tryz.f51,d51_at,RI,RIk,initE,RL,SE,h1,h32,wkl,RU3,e_h34,h35',e_h36,e_h37,h38',FN]
   ·refine J.hd jn_at ?_
    conv=>arg 1;simp (maxSteps:=4000000) (disch:=first|exact Zd|fail) only[ZZ,d10_at,simprocAttr,go_b25,bodyOf,Tryz.f25,d25_at,go_b51,bodyOf,Tryz.f51,d51_at,RI,RIk,initE,RL,SE,h1,h32,wkl,RU3,e_h34,h35']
    refine J.un λx84=> ?_
    conv=>arg 1;simp (maxSteps:=4000000) (disch:=first|exact Zd|fail) only[ZZ,d10_at,simprocAttr,go_b25,bodyOf,Tryz.f25,d25_at,go_b51,bodyOf,Tryz.f51,d51_at,RI,RIk,initE,RL,SE,h1,h32,wkl,RU3,e_h34,h35']
    refine J.eq go_seq ?_
    conv=>arg 1;simp (maxSteps:=4000000) (disch:=first|exact Zd|fail) only[ZZ,d10_at,simprocAttr,go_b25,bodyOf,Tryz.f25,d25_at,go_b51,bodyOf,Tryz.f51,d51_at,RI,RIk,initE,RL,SE,h1,h32,wkl,RU3,e_h34,h35']
    refine J.eq ret_seq ?_
    refine J.eq go_seq ?_
    conv=>arg 1;simp (maxSteps:=4000000) (disch:=first|exact Zd|fail) only[ZZ,d10_at,simprocAttr,go_b25,bodyOf,Tryz.f25,d25_at,go_b51,bodyOf,Tryz.f51,d51_at,RI,RIk,initE,RL,SE,h1,h32,wkl,RU3,e_h34,h35']
    refine J.eq go_seq ?_
    conv=>arg 1;simp (maxSteps:=4000000) (disch:=first|exact Zd|fail) only[ZZ,d10_at,simprocAttr,go_b25,bodyOf,Tryz.f25,d25_at,go_b51,bodyOf,Tryz.f51,d51_at,RI,RIk,initE,RL,SE,h1,h32,wkl,RU3,e_h34,h35']
    refine J.ite (λh67=> ?_) (λh67=> ?_)
    ·have h67':=decide_eq_true h67
     conv=>arg 1;simp (maxSteps:=4000000) (disch:=first|exact Zd|fail) only[ZZ,d10_at,simprocAttr,go_b25,bodyOf,Tryz.f25,d25_at,go_b51,bodyOf,Tryz.f51,d51_at,RI,RIk,initE,RL,SE,h1,h32,wkl,RU3,e_h34,h35',h67']
     refine J.eq ret_seq ?_
     refine J.bind λx85 h68=> ?_
     have e_h68:=H19_0 _ _ h68
     try simp only[NN,NT,LN,simprocAttr,DT]at e_h68
     conv=>arg 1;simp (maxSteps:=4000000) (disch:=first|exact Zd|fail) only[ZZ,d10_at,simprocAttr,go_b25,bodyOf,Tryz.f25,d25_at,go_b51,bodyOf,Tryz.f51,d51_at,RI,RIk,initE,RL,SE,h1,h32,wkl,RU3,e_h34,h35',h67',e_h68]
     refine J.eq ret_seq ?_
     conv=>arg 1;simp (maxSteps:=4000000) (disch:=first|exact Zd|fail) only[ZZ,d10_at,simprocAttr,go_b25,bodyOf,Tryz.f25,d25_at,go_b51,bodyOf,Tryz.f51,d51_at,RI,RIk,initE,RL,SE,h1,h32,wkl,RU3,e_h34,h35',h67',e_h68]
     refine J.un λx86=> ?_
     conv=>arg 1;simp (maxSteps:=4000000) (disch:=first|exact Zd|fail) only[ZZ,d10_at,simprocAttr,go_b25,bodyOf,Tryz.f25,d25_at,go_b51,bodyOf,Tryz.f51,d51_at,RI,RIk,initE,RL,SE,h1,h32,wkl,RU3,e_h34,h35',h67',e_h68]
     refine J.eq go_seq ?_
     conv=>arg 1;simp (maxSteps:=4000000) (disch:=first|exact Zd|fail) only[ZZ,d10_at,simprocAttr,go_b25,bodyOf,Tryz.f25,d25_at,go_b51,bodyOf,Tryz.f51,d51_at,RI,RIk,initE,RL,SE,h1,h32,wkl,RU3,e_h34,h35',h67',e_h68]
     refine J.eq ret_seq ?_
     refine J.eq go_seq ?_
     conv=>arg 1;simp (maxSteps:=4000000) (disch:=first|exact Zd|fail) only[ZZ,d10_at,simprocAttr,go_b25,bodyOf,Tryz.f25,d25_at,go_b51,bodyOf,Tryz.f51,d51_at,RI,RIk,initE,RL,SE,h1,h32,wkl,RU3,e_h34,h35',h67',e_h68]
     refine J.eq go_seq ?_
     conv=>arg 1;simp (maxSteps:=4000000) (disch:=first|exact Zd|fail) only[ZZ,d10_at,simprocAttr,go_b25,bodyOf,Tryz.f25,d25_at,go_b51,bodyOf,Tryz.f51,d51_at,RI,RIk,initE,RL,SE,h1,h32,wkl,RU3,e_h34,h35',h67',e_h68]
     refine J.ite (λh69=> ?_) (λh69=> ?_)
     ·have h69':=decide_eq_true h69
      conv=>arg 1;simp (maxSteps:=4000000) (disch:=first|exact Zd|fail) only[ZZ,d10_at,simprocAttr,go_b25,bodyOf,Tryz.f25,d25_at,go_b51,bodyOf,Tryz.f51,d51_at,RI,RIk,initE,RL,SE,h1,h32,wkl,RU3,e_h34,h35',h67',e_h68,h69']
      refine J.eq ret_seq ?_
      refine J.bind λx87 h70=> ?_
      have e_h70:=H19_0 _ _ h70
      try simp only[NN,NT,LN,simprocAttr,DT]at e_h70
      conv=>arg 1;simp (maxSteps:=4000000) (disch:=first|exact Zd|fail) only[ZZ,d10_at,simprocAttr,go_b25,bodyOf,Tryz.f25,d25_at,go_b51,bodyOf,Tryz.f51,d51_at,RI,RIk,initE,RL,SE,h1,h32,wkl,RU3,e_h34,h35',h67',e_h68,h69',e_h70]
      refine J.eq ret_seq ?_
      conv=>arg 1;simp (maxSteps:=4000000) (disch:=first|exact Zd|fail) only[ZZ,d10_at,simprocAttr,go_b25,bodyOf,Tryz.f25,d25_at,go_b51,bodyOf,Tryz.f51,d51_at,RI,RIk,initE,RL,SE,h1,h32,wkl,RU3,e_h34,h35',h67',e_h68,h69',e_h70]
      refine J.un λx88=> ?_
      conv=>arg 1;simp (maxSteps:=4000000) (disch:=first|exact Zd|fail) only[ZZ,d10_at,simprocAttr,go_b25,bodyOf,Tryz.f25,d25_at,go_b51,bodyOf,Tryz.f51,d51_at,RI,RIk,initE,RL,SE,h1,h32,wkl,RU3,e_h34,h35',h67',e_h68,h69',e_h70]
      refine J.eq go_seq ?_
      conv=>arg 1;simp (maxSteps:=4000000) (disch:=first|exact Zd|fail) only[ZZ,d10_at,simprocAttr,go_b25,bodyOf,Tryz.f25,d25_at,go_b51,bodyOf,Tryz.f51,d51_at,RI,RIk,initE,RL,SE,h1,h32,wkl,RU3,e_h34,h35',h67',e_h68,h69',e_h70]
      refine J.eq ret_seq ?_
      refine J.eq go_seq ?_
      conv=>arg 1;simp (maxSteps:=4000000) (disch:=first|exact Zd|fail) only[ZZ,d10_at,simprocAttr,go_b25,bodyOf,Tryz.f25,d25_at,go_b51,bodyOf,Tryz.f51,d51_at,RI,RIk,initE,RL,SE,h1,h32,wkl,RU3,e_h34,h35',h67',e_h68,h69',e_h70]
      refine J.eq go_seq ?_
      conv=>arg 1;simp (maxSteps:=4000000) (disch:=first|exact Zd|fail) only[ZZ,d10_at,simprocAttr,go_b25,bodyOf,Tryz.f25,d25_at,go_b51,bodyOf,Tryz.f51,d51_at,RI,RIk,initE,RL,SE,h1,h32,wkl,RU3,e_h34,h35',h67',e_h68,h69',e_h70]
      refine J.ite (λh71=> ?_) (λh71=> ?_)
      ·have h71':=decide_eq_true h71
       conv=>arg 1;simp (maxSteps:=4000000) (disch:=first|exact Zd|fail) only[ZZ,d10_at,simprocAttr,go_b25,bodyOf,Tryz.f25,d25_at,go_b51,bodyOf,Tryz.f51,d51_at,RI,RIk,initE,RL,SE,h1,h32,wkl,RU3,e_h34,h35',h67',e_h68,h69',e_h70,h71']
       refine J.eq ret_seq ?_
       refine J.bind λx89 h72=> ?_
       have e_h72:=H19_0 _ _ h72
       try simp only[NN,NT,LN,simprocAttr,DT]at e_h72
       conv=>arg 1;simp (maxSteps:=4000000) (disch:=first|exact Zd|fail) only[ZZ,d10_at,simprocAttr,go_b25,bodyOf,Tryz.f25,d25_at,go_b51,bodyOf,Tryz.f51,d51_at,RI,RIk,initE,RL,SE,h1,h32,wkl,RU3,e_h34,h35',h67',e_h68,h69',e_h70,h71',e_h72]
       refine J.eq ret_seq ?_
       conv=>arg 1;simp (maxSteps:=4000000) (disch:=first|exact Zd|fail) only[ZZ,d10_at,simprocAttr,go_b25,bodyOf,Tryz.f25,d25_at,go_b51,bodyOf,Tryz.f51,d51_at,RI,RIk,initE,RL,SE,h1,h32,wkl,RU3,e_h34,h35',h67',e_h68,h69',e_h70,h71',e_h72]
       refine J.un λx90=> ?_
       conv=>arg 1;simp (maxSteps:=4000000) (disch:=first|exact Zd|fail) only[ZZ,d10_at,simprocAttr,go_b25,bodyOf,Tryz.f25,d25_at,go_b51,bodyOf,Tryz.f51,d51_at,RI,RIk,initE,RL,SE,h1,h32,wkl,RU3,e_h34,h35',h67',e_h68,h69',e_h70,h71',e_h72]
       refine J.eq go_seq ?_
       conv=>arg 1;simp (maxSteps:=4000000) (disch:=first|exact Zd|fail) only[ZZ,d10_at,simprocAttr,go_b25,bodyOf,Tryz.f25,d25_at,go_b51,bodyOf,Tryz.f51,d51_at,RI,RIk,initE,RL,SE,h1,h32,wkl,RU3,e_h34,h35',h67',e_h68,h69',e_h70,h71',e_h72]
       refine J.jmp (t:=(x85.fType,x87.fType,x89.fType,x85.fDims,x85.fF,x85.fI,x85.fB,x87.fDims,x87.fF,x87.fI,x87.fB,x89.fDims,x89.fF,x89.fI,x89.fB)) hj3 ?_ ?_
       ·exact Ze
       ·exact Zh
      ·have h71':=decide_eq_false h71
       refine J.bind λx91 h73=> ?_
       have e_h73:=H18_0 _ _ h73
       try simp only[NN,NT,LN,simprocAttr,DT]at e_h73
       conv=>arg 1;simp (maxSteps:=4000000) (disch:=first|exact Zd|fail) only[ZZ,d10_at,simprocAttr,go_b25,bodyOf,Tryz.f25,d25_at,go_b51,bodyOf,Tryz.f51,d51_at,RI,RIk,initE,RL,SE,h1,h32,wkl,RU3,e_h34,h35',h67',e_h68,h69',e_h70,h71',e_h73]
       refine J.ite (λh74=> ?_) (λh74=> ?_)
       ·have h74':=decide_eq_true h74
        conv=>arg 1;simp (maxSteps:=4000000) (disch:=first|exact Zd|fail) only[ZZ,d10_at,simprocAttr,go_b25,bodyOf,Tryz.f25,d25_at,go_b51,bodyOf,Tryz.f51,d51_at,RI,RIk,initE,RL,SE,h1,h32,wkl,RU3,e_h34,h35',h67',e_h68,h69',e_h70,h71',e_h73,h74']
        refine J.eq ret_seq ?_
        refine J.bind λx92 h75=> ?_
        have e_h75:=H19_0 _ _ h75
        try simp only[NN,NT,LN,simprocAttr,DT]at e_h75
        conv=>arg 1;simp (maxSteps:=4000000) (disch:=first|exact Zd|fail) only[ZZ,d10_at,simprocAttr,go_b25,bodyOf,Tryz.f25,d25_at,go_b51,bodyOf,Tryz.f51,d51_at,RI,RIk,initE,RL,SE,h1,h32,wkl,RU3,e_h34,h35',h67',e_h68,h69',e_h70,h71',e_h73,h74',e_h75]
        refine J.eq ret_seq ?_
        conv=>arg 1;simp (maxSteps:=4000000) (disch:=first|exact Zd|fail) only[ZZ,d10_at,simprocAttr,go_b25,bodyOf,Tryz.f25,d25_at,go_b51,bodyOf,Tryz.f51,d51_at,RI,RIk,initE,RL,SE,h1,h32,wkl,RU3,e_h34,h35',h67',e_h68,h69',e_h70,h71',e_h73,h74',e_h75]
        refine J.un λx93=> ?_
        conv=>arg 1;simp (maxSteps:=4000000) (disch:=first|exact Zd|fail) only[ZZ,d10_at,simprocAttr,go_b25,bodyOf,Tryz.f25,d25_at,go_b51,bodyOf,Tryz.f51,d51_at,RI,RIk,initE,RL,SE,h1,h32,wkl,RU3,e_h34,h35',h67',e_h68,h69',e_h70,h71',e_h73,h74',e_h75]
        refine J.eq go_seq ?_
        conv=>arg 1;simp (maxSteps:=4000000) (disch:=first|exact Zd|fail) only[ZZ,d10_at,simprocAttr,go_b25,bodyOf,Tryz.f25,d25_at,go_b51,bodyOf,Tryz.f51,d51_at,RI,RIk,initE,RL,SE,h1,h32,wkl,RU3,e_h34,h35',h67',e_h68,h69',e_h70,h71',e_h73,h74',e_h75]
        refine J.jmp (t:=(x85.fType,x87.fType,x92.fType,x85.fDims,x85.fF,x85.fI,x85.fB,x87.fDims,x87.fF,x87.fI,x87.fB,x92.fDims,x92.fF,x92.fI,x92.fB)) hj3 ?_ ?_
        ·exact Ze
        ·exact Zh
       ·have h74':=decide_eq_false h74
        refine J.some ?_
        simp (maxSteps:=20000000) (disch:=first|exact Zd|fail) only[ZZ,d10_at,simprocAttr,go_b25,bodyOf,Tryz.f25,d25_at,go_b51,bodyOf,Tryz.f51,d51_at,RI,RIk,initE,RL,SE,h1,h32,wkl,RU3,e_h34,h35',h67',e_h68,h69',e_h70,h71',e_h73,h74',FN]
     ·have h69':=decide_eq_false h69
      refine J.bind λx94 h76=> ?_
      have e_h76:=H18_0 _ _ h76
      try simp only[NN,NT,LN,simprocAttr,DT]at e_h76
      conv=>arg 1;simp (maxSteps:=4000000) (disch:=first|exact Zd|fail) only[ZZ,d10_at,simprocAttr,go_b25,bodyOf,Tryz.f25,d25_at,go_b51,bodyOf,Tryz.f51,d51_at,RI,RIk,initE,RL,SE,h1,h32,wkl,RU3,e_h34,h35',h67',e_h68,h69',e_h76]
      refine J.ite (λh77=> ?_) (λh77=> ?_)
      ·have h77':=decide_eq_true h77
       conv=>arg 1;simp (maxSteps:=4000000) (disch:=first|exact Zd|fail) only[ZZ,d10_at,simprocAttr,go_b25,bodyOf,Tryz.f25,d25_at,go_b51,bodyOf,Tryz.f51,d51_at,RI,RIk,initE,RL,SE,h1,h32,wkl,RU3,e_h34,h35',h67',e_h68,h69',e_h76,h77']
       refine J.eq ret_seq ?_
       refine J.bind λx95 h78=> ?_
       have e_h78:=H19_0 _ _ h78
       try simp only[NN,NT,LN,simprocAttr,DT]at e_h78
       conv=>arg 1;simp (maxSteps:=4000000) (disch:=first|exact Zd|fail) only[ZZ,d10_at,simprocAttr,go_b25,bodyOf,Tryz.f25,d25_at,go_b51,bodyOf,Tryz.f51,d51_at,RI,RIk,initE,RL,SE,h1,h32,wkl,RU3,e_h34,h35',h67',e_h68,h69',e_h76,h77',e_h78]
       refine J.eq ret_seq ?_
       conv=>arg 1;simp (maxSteps:=4000000) (disch:=first|exact Zd|fail) only[ZZ,d10_at,simprocAttr,go_b25,bodyOf,Tryz.f25,d25_at,go_b51,bodyOf,Tryz.f51,d51_at,RI,RIk,initE,RL,SE,h1,h32,wkl,RU3,e_h34,h35',h67',e_h68,h69',e_h76,h77',e_h78]
       refine J.un λx96=> ?_
       conv=>arg 1;simp (maxSteps:=4000000) (disch:=first|exact Zd|fail) only[ZZ,d10_at,simprocAttr,go_b25,bodyOf,Tryz.f25,d25_at,go_b51,bodyOf,Tryz.f51,d51_at,RI,RIk,initE,RL,SE,h1,h32,wkl,RU3,e_h34,h35',h67',e_h68,h69',e_h76,h77',e_h78]
       refine J.eq go_seq ?_
       conv=>arg 1;simp (maxSteps:=4000000) (disch:=first|exact Zd|fail) only[ZZ,d10_at,simprocAttr,go_b25,bodyOf,Tryz.f25,d25_at,go_b51,bodyOf,Tryz.f51,d51_at,RI,RIk,initE,RL,SE,h1,h32,wkl,RU3,e_h34,h35',h67',e_h68,h69',e_h76,h77',e_h78]
       refine J.eq ret_seq ?_
       refine J.eq go_seq ?_
       conv=>arg 1;simp (maxSteps:=4000000) (disch:=first|exact Zd|fail) only[ZZ,d10_at,simprocAttr,go_b25,bodyOf,Tryz.f25,d25_at,go_b51,bodyOf,Tryz.f51,d51_at,RI,RIk,initE,RL,SE,h1,h32,wkl,RU3,e_h34,h35',h67',e_h68,h69',e_h76,h77',e_h78]
       refine J.eq go_seq ?_
       conv=>arg 1;simp (maxSteps:=4000000) (disch:=first|exact Zd|fail) only[ZZ,d10_at,simprocAttr,go_b25,bodyOf,Tryz.f25,d25_at,go_b51,bodyOf,Tryz.f51,d51_at,RI,RIk,initE,RL,SE,h1,h32,wkl,RU3,e_h34,h35',h67',e_h68,h69',e_h76,h77',e_h78]
       refine J.ite (λh79=> ?_) (λh79=> ?_)
       ·have h79':=decide_eq_true h79
        conv=>arg 1;simp (maxSteps:=4000000) (disch:=first|exact Zd|fail) only[ZZ,d10_at,simprocAttr,go_b25,bodyOf,Tryz.f25,d25_at,go_b51,bodyOf,Tryz.f51,d51_at,RI,RIk,initE,RL,SE,h1,h32,wkl,RU3,e_h34,h35',h67',e_h68,h69',e_h76,h77',e_h78,h79']
        refine J.eq ret_seq ?_
        refine J.bind λx97 h80=> ?_
        have e_h80:=H19_0 _ _ h80
        try simp only[NN,NT,LN,simprocAttr,DT]at e_h80
        conv=>arg 1;simp (maxSteps:=4000000) (disch:=first|exact Zd|fail) only[ZZ,d10_at,simprocAttr,go_b25,bodyOf,Tryz.f25,d25_at,go_b51,bodyOf,Tryz.f51,d51_at,RI,RIk,initE,RL,SE,h1,h32,wkl,RU3,e_h34,h35',h67',e_h68,h69',e_h76,h77',e_h78,h79',e_h80]
        refine J.eq ret_seq ?_
        conv=>arg 1;simp (maxSteps:=4000000) (disch:=first|exact Zd|fail) only[ZZ,d10_at,simprocAttr,go_b25,bodyOf,Tryz.f25,d25_at,go_b51,bodyOf,Tryz.f51,d51_at,RI,RIk,initE,RL,SE,h1,h32,wkl,RU3,e_h34,h35',h67',e_h68,h69',e_h76,h77',e_h78,h79',e_h80]
        refine J.un λx98=> ?_
        conv=>arg 1;simp (maxSteps:=4000000) (disch:=first|exact Zd|fail) only[ZZ,d10_at,simprocAttr,go_b25,bodyOf,Tryz.f25,d25_at,go_b51,bodyOf,Tryz.f51,d51_at,RI,RIk,initE,RL,SE,h1,h32,wkl,RU3,e_h34,h35',h67',e_h68,h69',e_h76,h77',e_h78,h79',e_h80]
        refine J.eq go_seq ?_
        conv=>arg 1;simp (maxSteps:=4000000) (disch:=first|exact Zd|fail) only[ZZ,d10_at,simprocAttr,go_b25,bodyOf,Tryz.f25,d25_at,go_b51,bodyOf,Tryz.f51,d51_at,RI,RIk,initE,RL,SE,h1,h32,wkl,RU3,e_h34,h35',h67',e_h68,h69',e_h76,h77',e_h78,h79',e_h80]
        refine J.jmp (t:=(x85.fType,x95.fType,x97.fType,x85.fDims,x85.fF,x85.fI,x85.fB,x95.fDims,x95.fF,x95.fI,x95.fB,x97.fDims,x97.fF,x97.fI,x97.fB)) hj3 ?_ ?_
        ·exact Ze
        ·exact Zh
       ·have h79':=decide_eq_false h79
        refine J.bind λx99 h81=> ?_
        have e_h81:=H18_0 _ _ h81
        try simp only[NN,NT,LN,simprocAttr,DT]at e_h81
        conv=>arg 1;simp (maxSteps:=4000000) (disch:=first|exact Zd|fail) only[ZZ,d10_at,simprocAttr,go_b25,bodyOf,Tryz.f25,d25_at,go_b51,bodyOf,Tryz.f51,d51_at,RI,RIk,initE,RL,SE,h1,h32,wkl,RU3,e_h34,h35',h67',e_h68,h69',e_h76,h77',e_h78,h79',e_h81]
        refine J.ite (λh82=> ?_) (λh82=> ?_)
        ·have h82':=decide_eq_true h82
         conv=>arg 1;simp (maxSteps:=4000000) (disch:=first|exact Zd|fail) only[ZZ,d10_at,simprocAttr,go_b25,bodyOf,Tryz.f25,d25_at,go_b51,bodyOf,Tryz.f51,d51_at,RI,RIk,initE,RL,SE,h1,h32,wkl,RU3,e_h34,h35',h67',e_h68,h69',e_h76,h77',e_h78,h79',e_h81,h82']
         refine J.eq ret_seq ?_
         refine J.bind λx100 h83=> ?_
         have e_h83:=H19_0 _ _ h83
         try simp only[NN,NT,LN,simprocAttr,DT]at e_h83
         conv=>arg 1;simp (maxSteps:=4000000) (disch:=first|exact Zd|fail) only[ZZ,d10_at,simprocAttr,go_b25,bodyOf,Tryz.f25,d25_at,go_b51,bodyOf,Tryz.f51,d51_at,RI,RIk,initE,RL,SE,h1,h32,wkl,RU3,e_h34,h35',h67',e_h68,h69',e_h76,h77',e_h78,h79',e_h81,h82',e_h83]
         refine J.eq ret_seq ?_
         conv=>arg 1;simp (maxSteps:=4000000) (disch:=first|exact Zd|fail) only[ZZ,d10_at,simprocAttr,go_b25,bodyOf,Tryz.f25,d25_at,go_b51,bodyOf,Tryz.f51,d51_at,RI,RIk,initE,RL,SE,h1,h32,wkl,RU3,e_h34,h35',h67',e_h68,h69',e_h76,h77',e_h78,h79',e_h81,h82',e_h83]
         refine J.un λx101=> ?_
         conv=>arg 1;simp (maxSteps:=4000000) (disch:=first|exact Zd|fail) only[ZZ,d10_at,simprocAttr,go_b25,bodyOf,Tryz.f25,d25_at,go_b51,bodyOf,Tryz.f51,d51_at,RI,RIk,initE,RL,SE,h1,h32,wkl,RU3,e_h34,h35',h67',e_h68,h69',e_h76,h77',e_h78,h79',e_h81,h82',e_h83]
         refine J.eq go_seq ?_
         conv=>arg 1;simp (maxSteps:=4000000) (disch:=first|exact Zd|fail) only[ZZ,d10_at,simprocAttr,go_b25,bodyOf,Tryz.f25,d25_at,go_b51,bodyOf,Tryz.f51,d51_at,RI,RIk,initE,RL,SE,h1,h32,wkl,RU3,e_h34,h35',h67',e_h68,h69',e_h76,h77',e_h78,h79',e_h81,h82',e_h83]
         refine J.jmp (t:=(x85.fType,x95.fType,x100.fType,x85.fDims,x85.fF,x85.fI,x85.fB,x95.fDims,x95.fF,x95.fI,x95.fB,x100.fDims,x100.fF,x100.fI,x100.fB)) hj3 ?_ ?_
         ·exact Ze
         ·exact Zh
        ·have h82':=decide_eq_false h82
         refine J.some ?_
         simp (maxSteps:=20000000) (disch:=first|exact Zd|fail) only[ZZ,d10_at,simprocAttr,go_b25,bodyOf,Tryz.f25,d25_at,go_b51,bodyOf,Tryz.f51,d51_at,RI,RIk,initE,RL,SE,h1,h32,wkl,RU3,e_h34,h35',h67',e_h68,h69',e_h76,h77',e_h78,h79',e_h81,h82',FN]
      ·have h77':=decide_eq_false h77
       refine J.some ?_
       simp (maxSteps:=20000000) (disch:=first|exact Zd|fail) only[ZZ,d10_at,simprocAttr,go_b25,bodyOf,Tryz.f25,d25_at,go_b51,bodyOf,Tryz.f51,d51_at,RI,RIk,initE,RL,SE,h1,h32,wkl,RU3,e_h34,h35',h67',e_h68,h69',e_h76,h77',FN]
    ·have h67':=decide_eq_false h67
     refine J.bind λx102 h84=> ?_
     have e_h84:=H18_0 _ _ h84
     try simp only[NN,NT,LN,simprocAttr,DT]at e_h84
     conv=>arg 1;simp (maxSteps:=4000000) (disch:=first|exact Zd|fail) only[ZZ,d10_at,simprocAttr,go_b25,bodyOf,Tryz.f25,d25_at,go_b51,bodyOf,Tryz.f51,d51_at,RI,RIk,initE,RL,SE,h1,h32,wkl,RU3,e_h34,h35',h67',e_h84]
     refine J.ite (λh85=> ?_) (λh85=> ?_)
     ·have h85':=decide_eq_true h85
      conv=>arg 1;simp (maxSteps:=4000000) (disch:=first|exact Zd|fail) only[ZZ,d10_at,simprocAttr,go_b25,bodyOf,Tryz.f25,d25_at,go_b51,bodyOf,Tryz.f51,d51_at,RI,RIk,initE,RL,SE,h1,h32,wkl,RU3,e_h34,h35',h67',e_h84,h85']
      refine J.eq ret_seq ?_
      refine J.bind λx103 h86=> ?_
      have e_h86:=H19_0 _ _ h86
      try simp only[NN,NT,LN,simprocAttr,DT]at e_h86
      conv=>arg 1;simp (maxSteps:=4000000) (disch:=first|exact Zd|fail) only[ZZ,d10_at,simprocAttr,go_b25,bodyOf,Tryz.f25,d25_at,go_b51,bodyOf,Tryz.f51,d51_at,RI,RIk,initE,RL,SE,h1,h32,wkl,RU3,e_h34,h35',h67',e_h84,h85',e_h86]
      refine J.eq ret_seq ?_
      conv=>arg 1;simp (maxSteps:=4000000) (disch:=first|exact Zd|fail) only[ZZ,d10_at,simprocAttr,go_b25,bodyOf,Tryz.f25,d25_at,go_b51,bodyOf,Tryz.f51,d51_at,RI,RIk,initE,RL,SE,h1,h32,wkl,RU3,e_h34,h35',h67',e_h84,h85',e_h86]
      refine J.un λx104=> ?_
      conv=>arg 1;simp (maxSteps:=4000000) (disch:=first|exact Zd|fail) only[ZZ,d10_at,simprocAttr,go_b25,bodyOf,Tryz.f25,d25_at,go_b51,bodyOf,Tryz.f51,d51_at,RI,RIk,initE,RL,SE,h1,h32,wkl,RU3,e_h34,h35',h67',e_h84,h85',e_h86]
      refine J.eq go_seq ?_
      conv=>arg 1;simp (maxSteps:=4000000) (disch:=first|exact Zd|fail) only[ZZ,d10_at,simprocAttr,go_b25,bodyOf,Tryz.f25,d25_at,go_b51,bodyOf,Tryz.f51,d51_at,RI,RIk,initE,RL,SE,h1,h32,wkl,RU3,e_h34,h35',h67',e_h84,h85',e_h86]
      refine J.eq ret_seq ?_
      refine J.eq go_seq ?_
      conv=>arg 1;simp (maxSteps:=4000000) (disch:=first|exact Zd|fail) only[ZZ,d10_at,simprocAttr,go_b25,bodyOf,Tryz.f25,d25_at,go_b51,bodyOf,Tryz.f51,d51_at,RI,RIk,initE,RL,SE,h1,h32,wkl,RU3,e_h34,h35',h67',e_h84,h85',e_h86]
      refine J.eq go_seq ?_
      conv=>arg 1;simp (maxSteps:=4000000) (disch:=first|exact Zd|fail) only[ZZ,d10_at,simprocAttr,go_b25,bodyOf,Tryz.f25,d25_at,go_b51,bodyOf,Tryz.f51,d51_at,RI,RIk,initE,RL,SE,h1,h32,wkl,RU3,e_h34,h35',h67',e_h84,h85',e_h86]
      refine J.ite (λh87=> ?_) (λh87=> ?_)
      ·have h87':=decide_eq_true h87
       conv=>arg 1;simp (maxSteps:=4000000) (disch:=first|exact Zd|fail) only[ZZ,d10_at,simprocAttr,go_b25,bodyOf,Tryz.f25,d25_at,go_b51,bodyOf,Tryz.f51,d51_at,RI,RIk,initE,RL,SE,h1,h32,wkl,RU3,e_h34,h35',h67',e_h84,h85',e_h86,h87']
       refine J.eq ret_seq ?_
       refine J.bind λx105 h88=> ?_
       have e_h88:=H19_0 _ _ h88
       try simp only[NN,NT,LN,simprocAttr,DT]at e_h88
       conv=>arg 1;simp (maxSteps:=4000000) (disch:=first|exact Zd|fail) only[ZZ,d10_at,simprocAttr,go_b25,bodyOf,Tryz.f25,d25_at,go_b51,bodyOf,Tryz.f51,d51_at,RI,RIk,initE,RL,SE,h1,h32,wkl,RU3,e_h34,h35',h67',e_h84,h85',e_h86,h87',e_h88]
       refine J.eq ret_seq ?_
       conv=>arg 1;simp (maxSteps:=4000000) (disch:=first|exact Zd|fail) only[ZZ,d10_at,simprocAttr,go_b25,bodyOf,Tryz.f25,d25_at,go_b51,bodyOf,Tryz.f51,d51_at,RI,RIk,initE,RL,SE,h1,h32,wkl,RU3,e_h34,h35',h67',e_h84,h85',e_h86,h87',e_h88]
       refine J.un λx106=> ?_
       conv=>arg 1;simp (maxSteps:=4000000) (disch:=first|exact Zd|fail) only[ZZ,d10_at,simprocAttr,go_b25,bodyOf,Tryz.f25,d25_at,go_b51,bodyOf,Tryz.f51,d51_at,RI,RIk,initE,RL,SE,h1,h32,wkl,RU3,e_h34,h35',h67',e_h84,h85',e_h86,h87',e_h88]
       refine J.eq go_seq ?_
       conv=>arg 1;simp (maxSteps:=4000000) (disch:=first|exact Zd|fail) only[ZZ,d10_at,simprocAttr,go_b25,bodyOf,Tryz.f25,d25_at,go_b51,bodyOf,Tryz.f51,d51_at,RI,RIk,initE,RL,SE,h1,h32,wkl,RU3,e_h34,h35',h67',e_h84,h85',e_h86,h87',e_h88]
       refine J.eq ret_seq ?_
       refine J.eq go_seq ?_
       conv=>arg 1;simp (maxSteps:=4000000) (disch:=first|exact Zd|fail) only[ZZ,d10_at,simprocAttr,go_b25,bodyOf,Tryz.f25,d25_at,go_b51,bodyOf,Tryz.f51,d51_at,RI,RIk,initE,RL,SE,h1,h32,wkl,RU3,e_h34,h35',h67',e_h84,h85',e_h86,h87',e_h88]
       refine J.eq go_seq ?_
       conv=>arg 1;simp (maxSteps:=4000000) (disch:=first|exact Zd|fail) only[ZZ,d10_at,simprocAttr,go_b25,bodyOf,Tryz.f25,d25_at,go_b51,bodyOf,Tryz.f51,d51_at,RI,RIk,initE,RL,SE,h1,h32,wkl,RU3,e_h34,h35',h67',e_h84,h85',e_h86,h87',e_h88]
       refine J.ite (λh89=> ?_) (λh89=> ?_)
       ·have h89':=decide_eq_true h89
        conv=>arg 1;simp (maxSteps:=4000000) (disch:=first|exact Zd|fail) only[ZZ,d10_at,simprocAttr,go_b25,bodyOf,Tryz.f25,d25_at,go_b51,bodyOf,Tryz.f51,d51_at,RI,RIk,initE,RL,SE,h1,h32,wkl,RU3,e_h34,h35',h67',e_h84,h85',e_h86,h87',e_h88,h89']
        refine J.eq ret_seq ?_
        refine J.bind λx107 h90=> ?_
        have e_h90:=H19_0 _ _ h90
        try simp only[NN,NT,LN,simprocAttr,DT]at e_h90
        conv=>arg 1;simp (maxSteps:=4000000) (disch:=first|exact Zd|fail) only[ZZ,d10_at,simprocAttr,go_b25,bodyOf,Tryz.f25,d25_at,go_b51,bodyOf,Tryz.f51,d51_at,RI,RIk,initE,RL,SE,h1,h32,wkl,RU3,e_h34,h35',h67',e_h84,h85',e_h86,h87',e_h88,h89',e_h90]
        refine J.eq ret_seq ?_
        conv=>arg 1;simp (maxSteps:=4000000) (disch:=first|exact Zd|fail) only[ZZ,d10_at,simprocAttr,go_b25,bodyOf,Tryz.f25,d25_at,go_b51,bodyOf,Tryz.f51,d51_at,RI,RIk,initE,RL,SE,h1,h32,wkl,RU3,e_h34,h35',h67',e_h84,h85',e_h86,h87',e_h88,h89',e_h90]
        refine J.un λx108=> ?_
        conv=>arg 1;simp (maxSteps:=4000000) (disch:=first|exact Zd|fail) only[ZZ,d10_at,simprocAttr,go_b25,bodyOf,Tryz.f25,d25_at,go_b51,bodyOf,Tryz.f51,d51_at,RI,RIk,initE,RL,SE,h1,h32,wkl,RU3,e_h34,h35',h67',e_h84,h85',e_h86,h87',e_h88,h89',e_h90]
        refine J.eq go_seq ?_
        conv=>arg 1;simp (maxSteps:=4000000) (disch:=first|exact Zd|fail) only[ZZ,d10_at,simprocAttr,go_b25,bodyOf,Tryz.f25,d25_at,go_b51,bodyOf,Tryz.f51,d51_at,RI,RIk,initE,RL,SE,h1,h32,wkl,RU3,e_h34,h35',h67',e_h84,h85',e_h86,h87',e_h88,h89',e_h90]
        refine J.jmp (t:=(x103.fType,x105.fType,x107.fType,x103.fDims,x103.fF,x103.fI,x103.fB,x105.fDims,x105.fF,x105.fI,x105.fB,x107.fDims,x107.fF,x107.fI,x107.fB)) hj3 ?_ ?_
        ·exact Ze
        ·exact Zh
       ·have h89':=decide_eq_false h89
        refine J.bind λx109 h91=> ?_
        have e_h91:=H18_0 _ _ h91
        try simp only[NN,NT,LN,simprocAttr,DT]at e_h91
        conv=>arg 1;simp (maxSteps:=4000000) (disch:=first|exact Zd|fail) only[ZZ,d10_at,simprocAttr,go_b25,bodyOf,Tryz.f25,d25_at,go_b51,bodyOf,Tryz.f51,d51_at,RI,RIk,initE,RL,SE,h1,h32,wkl,RU3,e_h34,h35',h67',e_h84,h85',e_h86,h87',e_h88,h89',e_h91]
        refine J.ite (λh92=> ?_) (λh92=> ?_)
        ·have h92':=decide_eq_true h92
         conv=>arg 1;simp (maxSteps:=4000000) (disch:=first|exact Zd|fail) only[ZZ,d10_at,simprocAttr,go_b25,bodyOf,Tryz.f25,d25_at,go_b51,bodyOf,Tryz.f51,d51_at,RI,RIk,initE,RL,SE,h1,h32,wkl,RU3,e_h34,h35',h67',e_h84,h85',e_h86,h87',e_h88,h89',e_h91,h92']
         refine J.eq ret_seq ?_
         refine J.bind λx110 h93=> ?_
         have e_h93:=H19_0 _ _ h93
         try simp only[NN,NT,LN,simprocAttr,DT]at e_h93
         conv=>arg 1;simp (maxSteps:=4000000) (disch:=first|exact Zd|fail) only[ZZ,d10_at,simprocAttr,go_b25,bodyOf,Tryz.f25,d25_at,go_b51,bodyOf,Tryz.f51,d51_at,RI,RIk,initE,RL,SE,h1,h32,wkl,RU3,e_h34,h35',h67',e_h84,h85',e_h86,h87',e_h88,h89',e_h91,h92',e_h93]
         refine J.eq ret_seq ?_
         conv=>arg 1;simp (maxSteps:=4000000) (disch:=first|exact Zd|fail) only[ZZ,d10_at,simprocAttr,go_b25,bodyOf,Tryz.f25,d25_at,go_b51,bodyOf,Tryz.f51,d51_at,RI,RIk,initE,RL,SE,h1,h32,wkl,RU3,e_h34,h35',h67',e_h84,h85',e_h86,h87',e_h88,h89',e_h91,h92',e_h93]
         refine J.un λx111=> ?_
         conv=>arg 1;simp (maxSteps:=4000000) (disch:=first|exact Zd|fail) only[ZZ,d10_at,simprocAttr,go_b25,bodyOf,Tryz.f25,d25_at,go_b51,bodyOf,Tryz.f51,d51_at,RI,RIk,initE,RL,SE,h1,h32,wkl,RU3,e_h34,h35',h67',e_h84,h85',e_h86,h87',e_h88,h89',e_h91,h92',e_h93]
         refine J.eq go_seq ?_
         conv=>arg 1;simp (maxSteps:=4000000) (disch:=first|exact Zd|fail) only[ZZ,d10_at,simprocAttr,go_b25,bodyOf,Tryz.f25,d25_at,go_b51,bodyOf,Tryz.f51,d51_at,RI,RIk,initE,RL,SE,h1,h32,wkl,RU3,e_h34,h35',h67',e_h84,h85',e_h86,h87',e_h88,h89',e_h91,h92',e_h93]
         refine J.jmp (t:=(x103.fType,x105.fType,x110.fType,x103.fDims,x103.fF,x103.fI,x103.fB,x105.fDims,x105.fF,x105.fI,x105.fB,x110.fDims,x110.fF,x110.fI,x110.fB)) hj3 ?_ ?_
         ·exact Ze
         ·exact Zh
        ·have h92':=decide_eq_false h92
         refine J.some ?_
         simp (maxSteps:=20000000) (disch:=first|exact Zd|fail) only[ZZ,d10_at,simprocAttr,go_b25,bodyOf,Tryz.f25,d25_at,go_b51,bodyOf,Tryz.f51,d51_at,RI,RIk,initE,RL,SE,h1,h32,wkl,RU3,e_h34,h35',h67',e_h84,h85',e_h86,h87',e_h88,h89',e_h91,h92',FN]
      ·have h87':=decide_eq_false h87
       refine J.bind λx112 h94=> ?_
       have e_h94:=H18_0 _ _ h94
       try simp only[NN,NT,LN,simprocAttr,DT]at e_h94
       conv=>arg 1;simp (maxSteps:=4000000) (disch:=first|exact Zd|fail) only[ZZ,d10_at,simprocAttr,go_b25,bodyOf,Tryz.f25,d25_at,go_b51,bodyOf,Tryz.f51,d51_at,RI,RIk,initE,RL,SE,h1,h32,wkl,RU3,e_h34,h35',h67',e_h84,h85',e_h86,h87',e_h94]
       refine J.ite (λh95=> ?_) (λh95=> ?_)
       ·have h95':=decide_eq_true h95
        conv=>arg 1;simp (maxSteps:=4000000) (disch:=first|exact Zd|fail) only[ZZ,d10_at,simprocAttr,go_b25,bodyOf,Tryz.f25,d25_at,go_b51,bodyOf,Tryz.f51,d51_at,RI,RIk,initE,RL,SE,h1,h32,wkl,RU3,e_h34,h35',h67',e_h84,h85',e_h86,h87',e_h94,h95']
        refine J.eq ret_seq ?_
        refine J.bind λx113 h96=> ?_
        have e_h96:=H19_0 _ _ h96
        try simp only[NN,NT,LN,simprocAttr,DT]at e_h96
        conv=>arg 1;simp (maxSteps:=4000000) (disch:=first|exact Zd|fail) only[ZZ,d10_at,simprocAttr,go_b25,bodyOf,Tryz.f25,d25_at,go_b51,bodyOf,Tryz.f51,d51_at,RI,RIk,initE,RL,SE,h1,h32,wkl,RU3,e_h34,h35',h67',e_h84,h85',e_h86,h87',e_h94,h95',e_h96]
        refine J.eq ret_seq ?_
        conv=>arg 1;simp (maxSteps:=4000000) (disch:=first|exact Zd|fail) only[ZZ,d10_at,simprocAttr,go_b25,bodyOf,Tryz.f25,d25_at,go_b51,bodyOf,Tryz.f51,d51_at,RI,RIk,initE,RL,SE,h1,h32,wkl,RU3,e_h34,h35',h67',e_h84,h85',e_h86,h87',e_h94,h95',e_h96]
        refine J.un λx114=> ?_
        conv=>arg 1;simp (maxSteps:=4000000) (disch:=first|exact Zd|fail) only[ZZ,d10_at,simprocAttr,go_b25,bodyOf,Tryz.f25,d25_at,go_b51,bodyOf,Tryz.f51,d51_at,RI,RIk,initE,RL,SE,h1,h32,wkl,RU3,e_h34,h35',h67',e_h84,h85',e_h86,h87',e_h94,h95',e_h96]
        refine J.eq go_seq ?_
        conv=>arg 1;simp (maxSteps:=4000000) (disch:=first|exact Zd|fail) only[ZZ,d10_at,simprocAttr,go_b25,bodyOf,Tryz.f25,d25_at,go_b51,bodyOf,Tryz.f51,d51_at,RI,RIk,initE,RL,SE,h1,h32,wkl,RU3,e_h34,h35',h67',e_h84,h85',e_h86,h87',e_h94,h95',e_h96]
        refine J.eq ret_seq ?_
        refine J.eq go_seq ?_
        conv=>arg 1;simp (maxSteps:=4000000) (disch:=first|exact Zd|fail) only[ZZ,d10_at,simprocAttr,go_b25,bodyOf,Tryz.f25,d25_at,go_b51,bodyOf,Tryz.f51,d51_at,RI,RIk,initE,RL,SE,h1,h32,wkl,RU3,e_h34,h35',h67',e_h84,h85',e_h86,h87',e_h94,h95',e_h96]
        refine J.eq go_seq ?_
        conv=>arg 1;simp (maxSteps:=4000000) (disch:=first|exact Zd|fail) only[ZZ,d10_at,simprocAttr,go_b25,bodyOf,Tryz.f25,d25_at,go_b51,bodyOf,Tryz.f51,d51_at,RI,RIk,initE,RL,SE,h1,h32,wkl,RU3,e_h34,h35',h67',e_h84,h85',e_h86,h87',e_h94,h95',e_h96]
        refine J.ite (λh97=> ?_) (λh97=> ?_)
        ·have h97':=decide_eq_true h97
         conv=>arg 1;simp (maxSteps:=4000000) (disch:=first|exact Zd|fail) only[ZZ,d10_at,simprocAttr,go_b25,bodyOf,Tryz.f25,d25_at,go_b51,bodyOf,Tryz.f51,d51_at,RI,RIk,initE,RL,SE,h1,h32,wkl,RU3,e_h34,h35',h67',e_h84,h85',e_h86,h87',e_h94,h95',e_h96,h97']
         refine J.eq ret_seq ?_
         refine J.bind λx115 h98=> ?_
         have e_h98:=H19_0 _ _ h98
         try simp only[NN,NT,LN,simprocAttr,DT]at e_h98
         conv=>arg 1;simp (maxSteps:=4000000) (disch:=first|exact Zd|fail) only[ZZ,d10_at,simprocAttr,go_b25,bodyOf,Tryz.f25,d25_at,go_b51,bodyOf,Tryz.f51,d51_at,RI,RIk,initE,RL,SE,h1,h32,wkl,RU3,e_h34,h35',h67',e_h84,h85',e_h86,h87',e_h94,h95',e_h96,h97',e_h98]
         refine J.eq ret_seq ?_
         conv=>arg 1;simp (maxSteps:=4000000) (disch:=first|exact Zd|fail) only[ZZ,d10_at,simprocAttr,go_b25,bodyOf,Tryz.f25,d25_at,go_b51,bodyOf,Tryz.f51,d51_at,RI,RIk,initE,RL,SE,h1,h32,wkl,RU3,e_h34,h35',h67',e_h84,h85',e_h86,h87',e_h94,h95',e_h96,h97',e_h98]
         refine J.un λx116=> ?_
         conv=>arg 1;simp (maxSteps:=4000000) (disch:=first|exact Zd|fail) only[ZZ,d10_at,simprocAttr,go_b25,bodyOf,Tryz.f25,d25_at,go_b51,bodyOf,Tryz.f51,d51_at,RI,RIk,initE,RL,SE,h1,h32,wkl,RU3,e_h34,h35',h67',e_h84,h85',e_h86,h87',e_h94,h95',e_h96,h97',e_h98]
         refine J.eq go_seq ?_
         conv=>arg 1;simp (maxSteps:=4000000) (disch:=first|exact Zd|fail) only[ZZ,d10_at,simprocAttr,go_b25,bodyOf,Tryz.f25,d25_at,go_b51,bodyOf,Tryz.f51,d51_at,RI,RIk,initE,RL,SE,h1,h32,wkl,RU3,e_h34,h35',h67',e_h84,h85',e_h86,h87',e_h94,h95',e_h96,h97',e_h98]
         refine J.jmp (t:=(x103.fType,x113.fType,x115.fType,x103.fDims,x103.fF,x103.fI,x103.fB,x113.fDims,x113.fF,x113.fI,x113.fB,x115.fDims,x115.fF,x115.fI,x115.fB)) hj3 ?_ ?_
         ·exact Ze
         ·exact Zh
        ·have h97':=decide_eq_false h97
         refine J.bind λx117 h99=> ?_
         have e_h99:=H18_0 _ _ h99
         try simp only[NN,NT,LN,simprocAttr,DT]at e_h99
         conv=>arg 1;simp (maxSteps:=4000000) (disch:=first|exact Zd|fail) only[ZZ,d10_at,simprocAttr,go_b25,bodyOf,Tryz.f25,d25_at,go_b51,bodyOf,Tryz.f51,d51_at,RI,RIk,initE,RL,SE,h1,h32,wkl,RU3,e_h34,h35',h67',e_h84,h85',e_h86,h87',e_h94,h95',e_h96,h97',e_h99]
         refine J.ite (λh100=> ?_) (λh100=> ?_)
         ·have h100':=decide_eq_true h100
          conv=>arg 1;simp (maxSteps:=4000000) (disch:=first|exact Zd|fail) only[ZZ,d10_at,simprocAttr,go_b25,bodyOf,Tryz.f25,d25_at,go_b51,bodyOf,Tryz.f51,d51_at,RI,RIk,initE,RL,SE,h1,h32,wkl,RU3,e_h34,h35',h67',e_h84,h85',e_h86,h87',e_h94,h95',e_h96,h97',e_h99,h100']
          refine J.eq ret_seq ?_
          refine J.bind λx118 h101=> ?_
          have e_h101:=H19_0 _ _ h101
          try simp only[NN,NT,LN,simprocAttr,DT]at e_h101
          conv=>arg 1;simp (maxSteps:=4000000) (disch:=first|exact Zd|fail) only[ZZ,d10_at,simprocAttr,go_b25,bodyOf,Tryz.f25,d25_at,go_b51,bodyOf,Tryz.f51,d51_at,RI,RIk,initE,RL,SE,h1,h32,wkl,RU3,e_h34,h35',h67',e_h84,h85',e_h86,h87',e_h94,h95',e_h96,h97',e_h99,h100',e_h101]
          refine J.eq ret_seq ?_
          conv=>arg 1;simp (maxSteps:=4000000) (disch:=first|exact Zd|fail) only[ZZ,d10_at,simprocAttr,go_b25,bodyOf,Tryz.f25,d25_at,go_b51,bodyOf,Tryz.f51,d51_at,RI,RIk,initE,RL,SE,h1,h32,wkl,RU3,e_h34,h35',h67',e_h84,h85',e_h86,h87',e_h94,h95',e_h96,h97',e_h99,h100',e_h101]
          refine J.un λx119=> ?_
          conv=>arg 1;simp (maxSteps:=4000000) (disch:=first|exact Zd|fail) only[ZZ,d10_at,simprocAttr,go_b25,bodyOf,Tryz.f25,d25_at,go_b51,bodyOf,Tryz.f51,d51_at,RI,RIk,initE,RL,SE,h1,h32,wkl,RU3,e_h34,h35',h67',e_h84,h85',e_h86,h87',e_h94,h95',e_h96,h97',e_h99,h100',e_h101]
          refine J.eq go_seq ?_
          conv=>arg 1;simp (maxSteps:=4000000) (disch:=first|exact Zd|fail) only[ZZ,d10_at,simprocAttr,go_b25,bodyOf,Tryz.f25,d25_at,go_b51,bodyOf,Tryz.f51,d51_at,RI,RIk,initE,RL,SE,h1,h32,wkl,RU3,e_h34,h35',h67',e_h84,h85',e_h86,h87',e_h94,h95',e_h96,h97',e_h99,h100',e_h101]
          refine J.jmp (t:=(x103.fType,x113.fType,x118.fType,x103.fDims,x103.fF,x103.fI,x103.fB,x113.fDims,x113.fF,x113.fI,x113.fB,x118.fDims,x118.fF,x118.fI,x118.fB)) hj3 ?_ ?_
          ·exact Ze
          ·exact Zh
         ·have h100':=decide_eq_false h100
          refine J.some ?_
          simp (maxSteps:=20000000) (disch:=first|exact Zd|fail) only[ZZ,d10_at,simprocAttr,go_b25,bodyOf,Tryz.f25,d25_at,go_b51,bodyOf,Tryz.f51,d51_at,RI,RIk,initE,RL,SE,h1,h32,wkl,RU3,e_h34,h35',h67',e_h84,h85',e_h86,h87',e_h94,h95',e_h96,h97',e_h99,h100',FN]
       ·have h95':=decide_eq_false h95
        refine J.some ?_
        simp (maxSteps:=20000000) (disch:=first|exact Zd|fail) only[ZZ,d10_at,simprocAttr,go_b25,bodyOf,Tryz.f25,d25_at,go_b51,bodyOf,Tryz.f51,d51_at,RI,RIk,initE,RL,SE,h1,h32,wkl,RU3,e_h34,h35',h67',e_h84,h85',e_h86,h87',e_h94,h95',FN]
     ·have h85':=decide_eq_false h85
      refine J.some ?_
      simp (maxSteps:=20000000) (disch:=first|exact Zd|fail) only[ZZ,d10_at,simprocAttr,go_b25,bodyOf,Tryz.f25,d25_at,go_b51,bodyOf,Tryz.f51,d51_at,RI,RIk,initE,RL,SE,h1,h32,wkl,RU3,e_h34,h35',h67',e_h84,h85',FN]
  ·have h35':x45=false:=Bool.eq_false_iff.2 h35
   refine J.some ?_
   simp (maxSteps:=20000000) (disch:=first|exact Zd|fail) only[ZZ,d10_at,simprocAttr,go_b25,bodyOf,Tryz.f25,d25_at,go_b51,bodyOf,Tryz.f51,d51_at,RI,RIk,initE,RL,SE,h1,h32,wkl,RU3,e_h34,h35',FN]
noncomputable def t10(fu:Nat):CallP:=orE 17 (mkC (λ(t:Int)=>([.v (.int .i64 t)]:List AV)) (λt=>moves_Has fu t) e17) (orE 18 (mkC (λ(t:T_Tensor)=>([.agg (c_T_Tensor t)]:List AV)) (λt=>tens_Check fu t) e18) (orE 19 (mkC (λ(t:T_Tensor)=>([.agg (c_T_Tensor t)]:List AV)) (λt=>tens_Canon fu t) e19) (orE 21 (mkC (λ(t:List T_Tensor)=>([.arr t.length (fm c_T_Tensor t)]:List AV)) (λt=>ewise_Vals fu t) e21) (orE 20 (mkC (λ(t:Int×T_Setting×(List T_Val)×Int)=>([.v (.int .i64 t.1),.agg (c_T_Setting t.2.1),.arr t.2.2.1.length (fm c_T_Val t.2.2.1),.v (.int .i64 t.2.2.2)]:List AV)) (λt=>infer_Node fu t.1 t.2.1 t.2.2.1 t.2.2.2) e20) (orE 22 (mkC (λ(t:Int×Int)=>([.v (.int .i64 t.1),.v (.int .i64 t.2)]:List AV)) (λt=>shape_Axis fu t.1 t.2) e22) (orE 23 (mkC (λ(t:T_moves_move)=>([.ref (c_T_moves_move t) 0]:List AV)) (λt=>moves_move_named fu t) e23) (orE 50 (mkC (λ(t:T_moves_move×(List Int))=>([.ref (c_T_moves_move t.1) 0,.arr t.2.length (lm (ik .i64) t.2)]:List AV)) (λt=>moves_move_along fu t.1 t.2) e50) (orE 49 (mkC (λ(t:T_Tensor×(List Int)×(List Int))=>([.agg (c_T_Tensor t.1),.arr t.2.1.length (lm (ik .i64) t.2.1),.arr t.2.2.length (lm (ik .i64) t.2.2)]:List AV)) (λt=>tens_Pick fu t.1 t.2.1 t.2.2) e49) (noP)))))))))
theorem t10_ok(fu:Nat):CpOK Tryz.prog (t10 fu):=orE_ok (orE_ok (orE_ok (orE_ok (orE_ok (orE_ok (orE_ok (orE_ok (orE_ok (noP_ok) (mkC_ok (λt b h=>ok49 fu t.1 t.2.1 t.2.2 b h))) (mkC_ok (λt b h=>ok50 fu t.1 t.2 b h))) (mkC_ok (λt b h=>ok23 fu t b h))) (mkC_ok (λt b h=>ok22 fu t.1 t.2 b h))) (mkC_ok (λt b h=>ok20 fu t.1 t.2.1 t.2.2.1 t.2.2.2 b h))) (mkC_ok (λt b h=>ok21 fu t b h))) (mkC_ok (λt b h=>ok19 fu t b h))) (mkC_ok (λt b h=>ok18 fu t b h))) (mkC_ok (λt b h=>ok17 fu t b h))
theorem ok10(fu:Nat)(x1:Int)(x2:T_Setting)(x3:List T_Tensor)(x4:Int)(r)(h:moves_Do fu x1 x2 x3 x4=some r):PureOK Tryz.prog 10 [.v (.int .i64 x1),.agg (c_T_Setting x2),.arr x3.length (fm c_T_Tensor x3),.v (.int .i64 x4)] (e10 r):=
  pureS_J mixed (cp:=t10 fu) (t10_ok fu) (ciE_ok mixed (t10_ok fu) (ciE_ok mixed (t10_ok fu) noI_ok i51 noI_ok) i25 (ciE_ok mixed (t10_ok fu) noI_ok i51 noI_ok)) i10 (w10 _ fu x1 x2 x3 x4 (λa0 r h=>orE_hit (mkC_at (a:=a0) (by intro a b h;first|(exact rfl)|(simp only[INJ,IJ]at h;first|exact h|(simp_all [Prod.ext_iff]))) h)) (λa0 r h=>orE_miss (by decide) (orE_hit (mkC_at (a:=a0) (by intro a b h;first|(exact rfl)|(simp only[INJ,IJ]at h;first|exact h|(simp_all [Prod.ext_iff]))) h))) (λa0 r h=>orE_miss (by decide) (orE_miss (by decide) (orE_hit (mkC_at (a:=a0) (by intro a b h;first|(exact rfl)|(simp only[INJ,IJ]at h;first|exact h|(simp_all [Prod.ext_iff]))) h)))) (λa0 r h=>orE_miss (by decide) (orE_miss (by decide) (orE_miss (by decide) (orE_hit (mkC_at (a:=a0) (by intro a b h;first|(exact rfl)|(simp only[INJ,IJ]at h;first|exact h|(simp_all [Prod.ext_iff]))) h))))) (λa0 a1 a2 a3 r h=>orE_miss (by decide) (orE_miss (by decide) (orE_miss (by decide) (orE_miss (by decide) (orE_hit (mkC_at (a:=(a0,a1,a2,a3)) (by intro a b h;first|(exact rfl)|(simp only[INJ,IJ]at h;first|exact h|(simp_all [Prod.ext_iff]))) h)))))) (λa0 a1 r h=>orE_miss (by decide) (orE_miss (by decide) (orE_miss (by decide) (orE_miss (by decide) (orE_miss (by decide) (orE_hit (mkC_at (a:=(a0,a1)) (by intro a b h;first|(exact rfl)|(simp only[INJ,IJ]at h;first|exact h|(simp_all [Prod.ext_iff]))) h))))))) (λa0 r h=>orE_miss (by decide) (orE_miss (by decide) (orE_miss (by decide) (orE_miss (by decide) (orE_miss (by decide) (orE_miss (by decide) (orE_hit (mkC_at (a:=a0) (by intro a b h;first|(exact rfl)|(simp only[INJ,IJ]at h;first|exact h|(simp_all [Prod.ext_iff]))) h)))))))) (λa0 a1 r h=>orE_miss (by decide) (orE_miss (by decide) (orE_miss (by decide) (orE_miss (by decide) (orE_miss (by decide) (orE_miss (by decide) (orE_miss (by decide) (orE_hit (mkC_at (a:=(a0,a1)) (by intro a b h;first|(exact rfl)|(simp only[INJ,IJ]at h;first|exact h|(simp_all [Prod.ext_iff]))) h))))))))) (λa0 a1 a2 r h=>orE_miss (by decide) (orE_miss (by decide) (orE_miss (by decide) (orE_miss (by decide) (orE_miss (by decide) (orE_miss (by decide) (orE_miss (by decide) (orE_miss (by decide) (orE_hit (mkC_at (a:=(a0,a1,a2)) (by intro a b h;first|(exact rfl)|(simp only[INJ,IJ]at h;first|exact h|(simp_all [Prod.ext_iff]))) h))))))))))) h
def d27:List (Nat×List Nat):=[(0,[0]),(0,[]),(0,[4,5,6]),(0,[]),(0,[7,8,9,10,11,12]),(0,[]),(0,[13,14,15,16,17,18]),(0,[]),(0,[19,20,21,22,23,24]),(0,[]),(0,[1,25,26,27,28,29,30]),(0,[]),(0,[3,31])]
def d27_at:=by have h:=tabL d27.eq_1;simp only[AllAt,Nat.zero_add,Nat.reduceAdd]at h;exact h
theorem i27:finfo Tryz.prog 27 d27=some ⟨bodyOf Tryz.f27,[.cell 2 27],[27]⟩:=finfo_at Tryz.func27 rfl (by kernel_rfl) (by kernel_rfl)
def e27:T_Tensor->AV:=λr=> .agg [.v (.int .i64 r.fType),.fresh 1 r.fDims.length (lm (ik .i64) r.fDims),.fresh 1 r.fF.length (lm (ik .u32) r.fF),.fresh 1 r.fI.length (lm (ik .i64) r.fI),.fresh 1 r.fB.length (lm (bk) r.fB)]
set_option maxHeartbeats 20000000 in
theorem w27(cp:CallP)(fu:Nat)(x1:T_Tensor):J (go Tryz.prog noC cp noI 0 [] d27 fu (fin Tryz.prog [.cell 2 27] [27]) (bodyOf Tryz.f27) (initE 0 [.agg (c_T_Tensor x1)]) [] []) (ref05_Copy fu x1) e27:=by
 unfold ref05_Copy e27
 have da:=d27_at
 conv=>arg 1;simp only[bodyOf,Tryz.f27]
 have z0:=d27_at
 exact Wk
theorem ok27(fu:Nat)(x1:T_Tensor)(r)(h:ref05_Copy fu x1=some r):PureOK Tryz.prog 27 [.agg (c_T_Tensor x1)] (e27 r):=pureT mixed [] (ids:=[]) rfl (by decide) i27 (C:=noC) (ci:=λcp=>noI) (λcp ok=>noI_ok) (λcp H=>w27 cp fu x1) h
def d111:List (Nat×List Nat):=[(0,[2]),(0,[]),(0,[0,3,4])]
def d111_at:=by have h:=tabL d111.eq_1;simp only[AllAt,Nat.zero_add,Nat.reduceAdd]at h;exact h
theorem i111:finfo Tryz.prog 111 d111=some ⟨bodyOf Tryz.f111,[.tmp 2],[33]⟩:=finfo_at Tryz.func111 rfl (by kernel_rfl) (by kernel_rfl)
def e111:Int->AV:=λr=> .v (.int .u32 r)
set_option maxHeartbeats 20000000 in
theorem w111(cp:CallP)(fu:Nat)(x1:Int):J (go Tryz.prog noC cp noI 0 [] d111 fu (fin Tryz.prog [.tmp 2] [33]) (bodyOf Tryz.f111) (initE 0 [.v (.int .u32 x1)]) [] []) (ref01_Abs fu x1) e111:=by
 unfold ref01_Abs e111
 have da:=d111_at
 conv=>arg 1;simp only[bodyOf,Tryz.f111]
 have z0:=d111_at
 exact Wk
theorem ok111(fu:Nat)(x1:Int)(r)(h:ref01_Abs fu x1=some r):PureOK Tryz.prog 111 [.v (.int .u32 x1)] (e111 r):=pureT mixed [] (ids:=[]) rfl (by decide) i111 (C:=noC) (ci:=λcp=>noI) (λcp ok=>noI_ok) (λcp H=>w111 cp fu x1) h
def d56:List (Nat×List Nat):=[(0,[2]),(0,[]),(0,[0,3,4,5])]
def d56_at:=by have h:=tabL d56.eq_1;simp only[AllAt,Nat.zero_add,Nat.reduceAdd]at h;exact h
theorem i56:finfo Tryz.prog 56 d56=some ⟨bodyOf Tryz.f56,[.tmp 2],[4]⟩:=finfo_at Tryz.func56 rfl (by kernel_rfl) (by kernel_rfl)
def e56:Bool->AV:=λr=> .v (.bool r)
structure K111 (fu:Nat) (cp:CallP):Prop where
 ap: ∀ {a0:Int} {r},ref01_Abs fu a0=some r->cp 111 [.v (.int .u32 a0)]=some (.v (.int .u32 r))
noncomputable def C111(fu:Nat):Cm Tryz.prog Int Int:=⟨111,λt=>[.v (.int .u32 t)],λt=>ref01_Abs fu t,e111,λt b h=>ok111 fu t b h,Zi⟩
theorem u111{fu:Nat}{cp:CallP}(H:Hit cp (C111 fu).ct):K111 fu cp:=⟨λ {a0 r} h=>(C111 fu).at H a0 r h⟩
set_option maxHeartbeats 20000000 in
theorem w56(cp:CallP)(fu:Nat)(x1:Int)(H1:K111 fu cp):J (go Tryz.prog noC cp noI 0 [] d56 fu (fin Tryz.prog [.tmp 2] [4]) (bodyOf Tryz.f56) (initE 0 [.v (.int .u32 x1)]) [] []) (ref01_IsNone fu x1) e56:=by
 unfold ref01_IsNone e56
 have da:=d56_at
 conv=>arg 1;simp only[bodyOf,Tryz.f56]
 have z0:=d56_at
 exact Wk
theorem ok56(fu:Nat)(x1:Int)(r)(h:ref01_IsNone fu x1=some r):PureOK Tryz.prog 56 [.v (.int .u32 x1)] (e56 r):=pureT mixed [(C111 fu).ct] (ids:=[111]) rfl (by decide) i56 (C:=noC) (ci:=λcp=>noI) (λcp ok=>noI_ok) (λcp H=>w56 cp fu x1 (u111 H.1)) h
def d28:List (Nat×List Nat):=[(0,[2]),(0,[]),(0,[3]),(0,[]),(0,[]),(0,[]),(0,[0,5])]
def d28_at:=by have h:=tabL d28.eq_1;simp only[AllAt,Nat.zero_add,Nat.reduceAdd]at h;exact h
theorem i28:finfo Tryz.prog 28 d28=some ⟨bodyOf Tryz.f28,[.tmp 2],[33]⟩:=finfo_at Tryz.func28 rfl (by kernel_rfl) (by kernel_rfl)
def e28:Int->AV:=λr=> .v (.int .u32 r)
structure K56 (fu:Nat) (cp:CallP):Prop where
 ap: ∀ {a0:Int} {r},ref01_IsNone fu a0=some r->cp 56 [.v (.int .u32 a0)]=some (.v (.bool r))
noncomputable def C56(fu:Nat):Cm Tryz.prog Int Bool:=⟨56,λt=>[.v (.int .u32 t)],λt=>ref01_IsNone fu t,e56,λt b h=>ok56 fu t b h,Zi⟩
theorem u56{fu:Nat}{cp:CallP}(H:Hit cp (C56 fu).ct):K56 fu cp:=⟨λ {a0 r} h=>(C56 fu).at H a0 r h⟩
set_option maxHeartbeats 20000000 in
theorem w28(cp:CallP)(fu:Nat)(x1:Int)(H1:K56 fu cp):J (go Tryz.prog noC cp noI 0 [] d28 fu (fin Tryz.prog [.tmp 2] [33]) (bodyOf Tryz.f28) (initE 0 [.v (.int .u32 x1)]) [] []) (ref01_Canon fu x1) e28:=by
 unfold ref01_Canon e28
 have da:=d28_at
 conv=>arg 1;simp only[bodyOf,Tryz.f28]
 have z0:=d28_at
 exact Wk
theorem ok28(fu:Nat)(x1:Int)(r)(h:ref01_Canon fu x1=some r):PureOK Tryz.prog 28 [.v (.int .u32 x1)] (e28 r):=pureT mixed [(C56 fu).ct] (ids:=[56]) rfl (by decide) i28 (C:=noC) (ci:=λcp=>noI) (λcp ok=>noI_ok) (λcp H=>w28 cp fu x1 (u56 H.1)) h
def d12:List (Nat×List Nat):=[(0,[0]),(0,[4]),(0,[1,5,6]),(0,[]),(0,[]),(0,[]),(0,[7,8,9,10]),(0,[]),(0,[12,13]),(0,[]),(10,[14,15,16,17,18,19,20,21,22,23]),(0,[]),(0,[3,24])]
def d12_at:=by have h:=tabL d12.eq_1;simp only[AllAt,Nat.zero_add,Nat.reduceAdd]at h;exact h
theorem i12:finfo Tryz.prog 12 d12=some ⟨bodyOf Tryz.f12,[.cell 2 27],[27]⟩:=finfo_at Tryz.func12 rfl (by kernel_rfl) (by kernel_rfl)
def e12:T_Tensor->AV:=λr=> .agg [.v (.int .i64 r.fType),.fresh 1 r.fDims.length (lm (ik .i64) r.fDims),.fresh 1 r.fF.length (lm (ik .u32) r.fF),.fresh 1 r.fI.length (lm (ik .i64) r.fI),.fresh 1 r.fB.length (lm (bk) r.fB)]
structure K27 (fu:Nat) (cp:CallP):Prop where
 ap: ∀ {a0:T_Tensor} {r},ref05_Copy fu a0=some r->cp 27 [.agg (c_T_Tensor a0)]=some (.agg [.v (.int .i64 r.fType),.fresh 1 r.fDims.length (lm (ik .i64) r.fDims),.fresh 1 r.fF.length (lm (ik .u32) r.fF),.fresh 1 r.fI.length (lm (ik .i64) r.fI),.fresh 1 r.fB.length (lm (bk) r.fB)])
noncomputable def C27(fu:Nat):Cm Tryz.prog T_Tensor T_Tensor:=⟨27,λt=>[.agg (c_T_Tensor t)],λt=>ref05_Copy fu t,e27,λt b h=>ok27 fu t b h,Zi⟩
theorem u27{fu:Nat}{cp:CallP}(H:Hit cp (C27 fu).ct):K27 fu cp:=⟨λ {a0 r} h=>(C27 fu).at H a0 r h⟩
structure K28 (fu:Nat) (cp:CallP):Prop where
 ap: ∀ {a0:Int} {r},ref01_Canon fu a0=some r->cp 28 [.v (.int .u32 a0)]=some (.v (.int .u32 r))
noncomputable def C28(fu:Nat):Cm Tryz.prog Int Int:=⟨28,λt=>[.v (.int .u32 t)],λt=>ref01_Canon fu t,e28,λt b h=>ok28 fu t b h,Zi⟩
theorem u28{fu:Nat}{cp:CallP}(H:Hit cp (C28 fu).ct):K28 fu cp:=⟨λ {a0 r} h=>(C28 fu).at H a0 r h⟩
def ref05_Canon.m1:LJ 1 6 Unit ((List Int)×Int):=⟨λr s e=>[(2,er e 2),(3,er e 3),(4,.v (.int .i64 s.2))],λr s h=>[((0,2,0),hr h (0,2,0)),((0,6,0),hr h (0,6,0)),((0,6,1),.sl true true 1 s.1.length (lm (ik .u32) s.1)),((0,6,2),hr h (0,6,2)),((0,6,3),hr h (0,6,3)),((0,3,0),bs (hr h (0,3,0)) 2 (.own (0,6,1) 0 s.1.length s.1.length))]⟩
set_option maxHeartbeats 20000000 in
open ref05_Canon in
theorem w12(cp:CallP)(fu:Nat)(x1:T_Tensor)(H1:K27 fu cp)(H2:K28 fu cp):J (go Tryz.prog noC cp noI 0 [] d12 fu (fin Tryz.prog [.cell 2 27] [27]) (bodyOf Tryz.f12) (initE 0 [.agg (c_T_Tensor x1)]) [] []) (ref05_Canon fu x1) e12:=by
 unfold ref05_Canon e12
 have da:=d12_at
 conv=>arg 1;simp only[bodyOf,Tryz.f12]
 have z0:=d12_at
 exact Wk
theorem ok12(fu:Nat)(x1:T_Tensor)(r)(h:ref05_Canon fu x1=some r):PureOK Tryz.prog 12 [.agg (c_T_Tensor x1)] (e12 r):=pureT mixed [(C27 fu).ct,(C28 fu).ct] (ids:=[27,28]) rfl (by decide) i12 (C:=noC) (ci:=λcp=>noI) (λcp ok=>noI_ok) (λcp H=>w12 cp fu x1 (u27 H.1) (u28 H.2.1)) h
def d26:List (Nat×List Nat):=[(0,[4]),(0,[0,1,5]),(0,[6,7,8,9]),(0,[]),(0,[]),(0,[]),(0,[]),(0,[]),(0,[11,12,13]),(0,[]),(0,[15,16]),(0,[]),(9,[17,18,19,20,21,22,23,24]),(0,[]),(0,[]),(0,[]),(0,[])]
def d26_at:=by have h:=tabL d26.eq_1;simp only[AllAt,Nat.zero_add,Nat.reduceAdd]at h;exact h
theorem i26:finfo Tryz.prog 26 d26=some ⟨bodyOf Tryz.f26,[.tmp 4],[4]⟩:=finfo_at Tryz.func26 rfl (by kernel_rfl) (by kernel_rfl)
def e26:Bool->AV:=λr=> .v (.bool r)
def ref04_SameInts.m1:LJ 1 8 Unit Int:=⟨λr s e=>[(0,er e 0),(1,er e 1),(5,.v (.int .i64 s))],λr s h=>[]⟩
set_option maxHeartbeats 20000000 in
open ref04_SameInts in
theorem w26(cp:CallP)(fu:Nat)(x1:List Int)(x2:List Int):J (go Tryz.prog noC cp noI 0 [] d26 fu (fin Tryz.prog [.tmp 4] [4]) (bodyOf Tryz.f26) (initE 0 [.arr x1.length (lm (ik .i64) x1),.arr x2.length (lm (ik .i64) x2)]) [] []) (ref04_SameInts fu x1 x2) e26:=by
 unfold ref04_SameInts e26
 have da:=d26_at
 conv=>arg 1;simp only[bodyOf,Tryz.f26]
 have z0:=d26_at
 exact Wk
theorem ok26(fu:Nat)(x1:List Int)(x2:List Int)(r)(h:ref04_SameInts fu x1 x2=some r):PureOK Tryz.prog 26 [.arr x1.length (lm (ik .i64) x1),.arr x2.length (lm (ik .i64) x2)] (e26 r):=pureT mixed [] (ids:=[]) rfl (by decide) i26 (C:=noC) (ci:=λcp=>noI) (λcp ok=>noI_ok) (λcp H=>w26 cp fu x1 x2) h
def d11:List (Nat×List Nat):=[(0,[0,1,4]),(0,[5]),(0,[8,9,10,11,12,13,14,15,16,17,18,19,20,21,22,23,24,25,26,27,28,29,30,31,32,33,34,35,36,37,38,39,40,41,42,43,44,45,46]),(0,[]),(0,[]),(0,[6]),(0,[]),(0,[]),(0,[48,49,50,51]),(0,[2,3,7]),(0,[53,54]),(0,[]),(11,[55,56,57,58,59,60,61,62,63,64]),(0,[]),(0,[]),(0,[]),(0,[]),(0,[]),(0,[66,67,68,69]),(0,[]),(0,[71,72]),(0,[]),(11,[73,74,75,76,77,78,79,80,81,82]),(0,[]),(0,[]),(0,[]),(0,[]),(0,[]),(0,[84,85,86,87]),(0,[]),(0,[89,90]),(0,[]),(11,[91,92,93,94,95,96,97,98,99,100]),(0,[]),(0,[]),(0,[]),(0,[])]
def d11_at:=by have h:=tabL d11.eq_1;simp only[AllAt,Nat.zero_add,Nat.reduceAdd]at h;exact h
theorem i11:finfo Tryz.prog 11 d11=some ⟨bodyOf Tryz.f11,[.tmp 4],[4]⟩:=finfo_at Tryz.func11 rfl (by kernel_rfl) (by kernel_rfl)
def e11:Bool->AV:=λr=> .v (.bool r)
structure K26 (fu:Nat) (cp:CallP):Prop where
 ap: ∀ {a0:List Int} {a1:List Int} {r},ref04_SameInts fu a0 a1=some r->cp 26 [.arr a0.length (lm (ik .i64) a0),.arr a1.length (lm (ik .i64) a1)]=some (.v (.bool r))
noncomputable def C26(fu:Nat):Cm Tryz.prog ((List Int)×(List Int)) Bool:=⟨26,λt=>[.arr t.1.length (lm (ik .i64) t.1),.arr t.2.length (lm (ik .i64) t.2)],λt=>ref04_SameInts fu t.1 t.2,e26,λt b h=>ok26 fu t.1 t.2 b h,Zi⟩
theorem u26{fu:Nat}{cp:CallP}(H:Hit cp (C26 fu).ct):K26 fu cp:=⟨λ {a0 a1 r} h=>(C26 fu).at H (a0,a1) r h⟩
def ref05_Same.m1:LJ 1 28 Unit Int:=⟨λr s e=>[(2,er e 2),(3,er e 3),(7,.v (.int .i64 s))],λr s h=>[((0,2,0),hr h (0,2,0)),((0,3,0),hr h (0,3,0))]⟩
def ref05_Same.m2:LJ 2 18 Unit Int:=⟨λr s e=>[(2,er e 2),(3,er e 3),(6,.v (.int .i64 s))],λr s h=>[((0,2,0),hr h (0,2,0)),((0,3,0),hr h (0,3,0))]⟩
def ref05_Same.j3:LJ 3 26 Unit Unit:=⟨λr t e=>[(2,er e 2),(3,er e 3)],λr t h=>[((0,2,0),hr h (0,2,0)),((0,3,0),hr h (0,3,0))]⟩
def ref05_Same.m3:LJ 3 8 Unit Int:=⟨λr s e=>[(2,er e 2),(3,er e 3),(5,.v (.int .i64 s))],λr s h=>[((0,2,0),hr h (0,2,0)),((0,3,0),hr h (0,3,0))]⟩
def ref05_Same.j2:LJ 2 16 Unit Unit:=⟨λr t e=>[(2,er e 2),(3,er e 3)],λr t h=>[((0,2,0),hr h (0,2,0)),((0,3,0),hr h (0,3,0))]⟩
def ref05_Same.j1:LJ 1 6 Unit Unit:=⟨λr t e=>[(2,er e 2),(3,er e 3)],λr t h=>[((0,2,0),hr h (0,2,0)),((0,3,0),hr h (0,3,0))]⟩
set_option maxHeartbeats 20000000 in
open ref05_Same in
theorem w11(cp:CallP)(fu:Nat)(x1:T_Tensor)(x2:T_Tensor)(H1:K26 fu cp):J (go Tryz.prog noC cp noI 0 [] d11 fu (fin Tryz.prog [.tmp 4] [4]) (bodyOf Tryz.f11) (initE 0 [.agg (c_T_Tensor x1),.agg (c_T_Tensor x2)]) [] []) (ref05_Same fu x1 x2) e11:=by
 unfold ref05_Same e11
 have da:=d11_at
 conv=>arg 1;simp only[bodyOf,Tryz.f11]
 have z0:=d11_at
 exact Wk
theorem ok11(fu:Nat)(x1:T_Tensor)(x2:T_Tensor)(r)(h:ref05_Same fu x1 x2=some r):PureOK Tryz.prog 11 [.agg (c_T_Tensor x1),.agg (c_T_Tensor x2)] (e11 r):=pureT mixed [(C26 fu).ct] (ids:=[26]) rfl (by decide) i11 (C:=noC) (ci:=λcp=>noI) (λcp ok=>noI_ok) (λcp H=>w11 cp fu x1 x2 (u26 H.1)) h
def d8:List (Nat×List Nat):=[(0,[0,1,6]),(0,[]),(0,[13]),(0,[]),(0,[2,14,15]),(0,[]),(0,[16,17,18,19,20,21,22,23]),(0,[]),(0,[10,24]),(0,[]),(0,[26,27,28,29,30,31]),(0,[]),(0,[32,33]),(0,[]),(0,[]),(0,[]),(13,[4,8,9,35,36,37,38,39,40,41,42,43,44,45]),(0,[]),(19,[3,7,11,12,46,47,48,49,50,51,52,53,54,55,56,57,58,59,60,61,62,63])]
def d8_at:=by have h:=tabL d8.eq_1;simp only[AllAt,Nat.zero_add,Nat.reduceAdd]at h;exact h
theorem i8:finfo Tryz.prog 8 d8=some ⟨bodyOf Tryz.f8,[.tmp 6],[4]⟩:=finfo_at Tryz.func8 rfl (by kernel_rfl) (by kernel_rfl)
def e8:Bool->AV:=λr=> .v (.bool r)
noncomputable def C9:Cm Tryz.prog Unit Bool:=⟨9,λ_=>[],λ_=>some true,λb=> .v (.bool b),λ_ b h=>by injection h with h;subst h;exact awake9,λ_ _ _=>rfl⟩
structure K10 (fu:Nat) (cp:CallP):Prop where
 ap: ∀ {a0:Int} {a1:T_Setting} {a2:List T_Tensor} {a3:Int} {r},moves_Do fu a0 a1 a2 a3=some r->cp 10 [.v (.int .i64 a0),.agg (c_T_Setting a1),.arr a2.length (fm c_T_Tensor a2),.v (.int .i64 a3)]=some (.tuple [.arr r.1.length (fm c_T_Tensor r.1),.v (.int .i64 r.2)])
noncomputable def C10(fu:Nat):Cm Tryz.prog (Int×T_Setting×(List T_Tensor)×Int) ((List T_Tensor)×Int):=⟨10,λt=>[.v (.int .i64 t.1),.agg (c_T_Setting t.2.1),.arr t.2.2.1.length (fm c_T_Tensor t.2.2.1),.v (.int .i64 t.2.2.2)],λt=>moves_Do fu t.1 t.2.1 t.2.2.1 t.2.2.2,e10,λt b h=>ok10 fu t.1 t.2.1 t.2.2.1 t.2.2.2 b h,Zi⟩
theorem u10{fu:Nat}{cp:CallP}(H:Hit cp (C10 fu).ct):K10 fu cp:=⟨λ {a0 a1 a2 a3 r} h=>(C10 fu).at H (a0,a1,a2,a3) r h⟩
structure K12 (fu:Nat) (cp:CallP):Prop where
 ap: ∀ {a0:T_Tensor} {r},ref05_Canon fu a0=some r->cp 12 [.agg (c_T_Tensor a0)]=some (.agg [.v (.int .i64 r.fType),.fresh 1 r.fDims.length (lm (ik .i64) r.fDims),.fresh 1 r.fF.length (lm (ik .u32) r.fF),.fresh 1 r.fI.length (lm (ik .i64) r.fI),.fresh 1 r.fB.length (lm (bk) r.fB)])
noncomputable def C12(fu:Nat):Cm Tryz.prog T_Tensor T_Tensor:=⟨12,λt=>[.agg (c_T_Tensor t)],λt=>ref05_Canon fu t,e12,λt b h=>ok12 fu t b h,Zi⟩
theorem u12{fu:Nat}{cp:CallP}(H:Hit cp (C12 fu).ct):K12 fu cp:=⟨λ {a0 r} h=>(C12 fu).at H a0 r h⟩
structure K11 (fu:Nat) (cp:CallP):Prop where
 ap: ∀ {a0:T_Tensor} {a1:T_Tensor} {r},ref05_Same fu a0 a1=some r->cp 11 [.agg (c_T_Tensor a0),.agg (c_T_Tensor a1)]=some (.v (.bool r))
noncomputable def C11(fu:Nat):Cm Tryz.prog (T_Tensor×T_Tensor) Bool:=⟨11,λt=>[.agg (c_T_Tensor t.1),.agg (c_T_Tensor t.2)],λt=>ref05_Same fu t.1 t.2,e11,λt b h=>ok11 fu t.1 t.2 b h,Zi⟩
theorem u11{fu:Nat}{cp:CallP}(H:Hit cp (C11 fu).ct):K11 fu cp:=⟨λ {a0 a1 r} h=>(C11 fu).at H (a0,a1) r h⟩
def law12_MovesScatter.j1:LJ 1 0 ((List T_Tensor)×Int) Unit:=⟨λr t e=>[(3,er e 3),(4,er e 4),(6,.v (.bool (decide ((r.1.length:Int)=0)))),(7,er e 7),(8,er e 8),(9,er e 9)],λr t h=>[((0,3,0),hr h (0,3,0)),((0,4,0),hr h (0,4,0)),((0,8,0),hr h (0,8,0)),((0,20,0),hr h (0,20,0))]⟩
set_option maxHeartbeats 20000000 in
open law12_MovesScatter in
theorem w8(cp:CallP)(fu:Nat)(x1:T_Tensor)(x2:T_Tensor)(x3:Int)(H1:cp 9 []=some (.v (.bool true)))(H2:K10 fu cp)(H3:K12 fu cp)(H4:K11 fu cp):J (go Tryz.prog noCs cp noI 0 [] d8 fu (fin Tryz.prog [.tmp 6] [4]) (bodyOf Tryz.f8) (initE 0 [.agg (c_T_Tensor x1),.agg (c_T_Tensor x2),.v (.int .i64 x3)]) [] []) (law12_MovesScatter fu x1 x2 x3) e8:=by
 unfold law12_MovesScatter e8
 have da:=d8_at
 conv=>arg 1;simp only[bodyOf,Tryz.f8]
 have z0:=d8_at
 have z1:= @aop_callC
 have z2:= @aq_callC
 exact Wk
theorem ok8(fu:Nat)(x1:T_Tensor)(x2:T_Tensor)(x3:Int)(r)(h:law12_MovesScatter fu x1 x2 x3=some r):PureOK Tryz.prog 8 [.agg (c_T_Tensor x1),.agg (c_T_Tensor x2),.v (.int .i64 x3)] (e8 r):=pureT mixed [C9.ct,(C10 fu).ct,(C12 fu).ct,(C11 fu).ct] (ids:=[9,10,12,11]) rfl (by decide) i8 (C:=noCs) (ci:=λcp=>noI) (λcp ok=>noI_ok) (λcp H=>w8 cp fu x1 x2 x3 (C9.at H.1 () true rfl) (u10 H.2.1) (u12 H.2.2.1) (u11 H.2.2.2.1)) h
end Go.Av
