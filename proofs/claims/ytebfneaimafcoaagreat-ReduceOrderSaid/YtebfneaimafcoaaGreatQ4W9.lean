/- The walks of the plain functions, part 3. Made by a program of mine. Conditions: none. -/
import Derived.Test.YtebfneaimafcoaaGreatQ4W8
set_option linter.unusedVariables false
set_option linter.unusedSimpArgs false
set_option linter.defProp false
set_option maxRecDepth 20000
open Go Go.Proofs
namespace Go.Av
open Aw (d17 d22 d23 d24 d25 d26 d27 d38 d39 d40 d41 d42 d43 d44 d45 d54 d60 d62 d80 d81 d82 d83 d84 d85 d86 d87 d88 d89 d91 d92 d93 d94 d95 d100 d106 d107 d120 d148 d149 d150 d152 d153 d154 d155 d159 d160 d161 d162 d163 d164 d165 d166 d168 d184 d195 d196 d197)
open Aw (d185)
open Aw (d112)
open Aw (d111)
open Aw (d50)
open Aw (d33)
open Aw (d47)
open Aw (d13)
def d4:List (Nat×List Nat):=[(0,[1,4]),(0,[]),(0,[13]),(0,[]),(0,[14,15,16,17,18]),(0,[]),(0,[0,19,20,21,22,23,24,25,26,27,28,29,30]),(0,[]),(0,[32]),(0,[]),(0,[33,34,35,36,37,38,39,40,41,42,43]),(0,[]),(0,[3,44,45]),(0,[]),(0,[7,46,47,48]),(0,[]),(0,[49,50,51,52,53,54,55,56]),(0,[]),(0,[6,8,57,58,59,60,61,62,63,64,65]),(0,[]),(0,[5,9,10,11,12,66,67,68,69,70,71,72,73,74,75,76])]
def d4_at:=by have h:=tabL d4.eq_1;simp only[AllAt,Nat.zero_add,Nat.reduceAdd]at h;exact h
theorem i4:finfo Tryz.prog 4 d4=some ⟨bodyOf Tryz.f4,[.tmp 4],[4]⟩:=finfo_at Tryz.func4 rfl (by kernel_rfl) (by kernel_rfl)
def e4:Bool->AV:=λr=> .v (.bool r)
set_option maxHeartbeats 20000000 in
theorem w4(cp:CallP)(fu:Nat)(x1:Int)(x2:T_Tensor)(H8:cp 8 []=some (.v (.bool true)))(H11_0: ∀ (a0:T_Tensor) r,ref05_Check fu a0=some r→cp 11 [.agg (c_T_Tensor a0)]=some (.v (.int .i64 r)))(H12_0: ∀ (a0:T_Tensor) r,ref05_Copy fu a0=some r→cp 12 [.agg (c_T_Tensor a0)]=some (.agg [.v (.int .i64 r.fType),.fresh 1 r.fDims.length (lm (ik .i64) r.fDims),.fresh 1 r.fF.length (lm (ik .u32) r.fF),.fresh 1 r.fI.length (lm (ik .i64) r.fI),.fresh 1 r.fB.length (lm (bk) r.fB)]))(H13_0: ∀ (a0:Int) (a1:T_Setting) (a2:List T_Tensor) r,reduce_Do fu a0 a1 a2=some r→cp 13 [.v (.int .i64 a0),.agg (c_T_Setting a1),.arr a2.length (fm c_T_Tensor a2)]=some (.tuple [.agg [.v (.int .i64 r.1.fType),.arr r.1.fDims.length (lm (ik .i64) r.1.fDims),.arr r.1.fF.length (lm (ik .u32) r.1.fF),.arr r.1.fI.length (lm (ik .i64) r.1.fI),.arr r.1.fB.length (lm (bk) r.1.fB)],.v (.int .i64 r.2)]))(H14_0: ∀ (a0:T_Tensor) r,law13_turned fu a0=some r→cp 14 [.agg (c_T_Tensor a0)]=some (.agg [.v (.int .i64 r.fType),.fresh 1 r.fDims.length (lm (ik .i64) r.fDims),.fresh 1 r.fF.length (lm (ik .u32) r.fF),.fresh 1 r.fI.length (lm (ik .i64) r.fI),.fresh 1 r.fB.length (lm (bk) r.fB)]))(H15_0: ∀ (a0:T_Tensor) (a1:T_Tensor) r,ref05_Same fu a0 a1=some r→cp 15 [.agg (c_T_Tensor a0),.agg (c_T_Tensor a1)]=some (.v (.bool r))):J (go Tryz.prog noCs cp noI 0 [] d4 fu (fin Tryz.prog [.tmp 4] [4]) (bodyOf Tryz.f4) (initE 0 [.v (.int .i64 x1),.agg (c_T_Tensor x2)]) [] []) (law13_ReduceOrder fu x1 x2) e4:=by
 unfold law13_ReduceOrder e4
 have da:=d4_at
 conv=>arg 1;simp (disch:=first|exact Zd|fail) only[bodyOf,Tryz.f4,ZZ,d4_at,simprocAttr,aop_callC,aq_callC,H8]
 refine J.ite (λh1=> ?_) (λh1=> ?_)
 ·have h1':=decide_eq_true h1
  conv=>arg 1;simp (disch:=first|exact Zd|fail) only[ZZ,d4_at,simprocAttr,aop_callC,aq_callC,H8,h1',h1]
  refine J.joinS (λ(t:Unit)=>([(3,.ptr (0,3,0) 0 0),(5,.v (.bool true)),(6,.v (.int .i64 67))],[((0,3,0),.bx true ([.v (.int .i64 x2.fType),.arr x2.fDims.length (lm (ik .i64) x2.fDims),.arr x2.fF.length (lm (ik .u32) x2.fF),.arr x2.fI.length (lm (ik .i64) x2.fI),.arr x2.fB.length (lm (bk) x2.fB)]))])) (λt=>law13_ReduceOrder.k1 fu x2) ?_ (λhj1=> ?_)
  ·rintro⟨⟩
   show J _ (law13_ReduceOrder.k1 fu x2) _
   unfold law13_ReduceOrder.k1
   refine J.bind λx3 h2=> ?_
   have e_h2:=H12_0 _ _ h2
   try simp only[NN,NT,LN,simprocAttr,DT]at e_h2
   refine J.bind λx4 h3=> ?_
   have e_h3:=H13_0 _ _ _ _ h3
   try simp only[NN,NT,LN,simprocAttr,DT]at e_h3
   refine J.bind λx5 h4=> ?_
   have e_h4:=H14_0 _ _ h4
   try simp only[NN,NT,LN,simprocAttr,DT]at e_h4
   refine J.bind λx6 h5=> ?_
   have e_h5:=H13_0 _ _ _ _ h5
   try simp only[NN,NT,LN,simprocAttr,DT]at e_h5
   conv=>arg 1;simp (disch:=first|exact Zd|fail) only[ZZ,d4_at,simprocAttr,aop_callC,aq_callC,H8,h1',h1,e_h2,e_h3,e_h4,e_h5]
   refine J.eq go_seq ?_
   conv=>arg 1;simp (disch:=first|exact Zd|fail) only[ZZ,d4_at,simprocAttr,aop_callC,aq_callC,H8,h1',h1,e_h2,e_h3,e_h4,e_h5]
   refine J.ite (λh6=> ?_) (λh6=> ?_)
   ·have h6':=decide_eq_true h6
    refine J.bind λx7 h7=> ?_
    have e_h7:=H15_0 _ _ _ h7
    try simp only[NN,NT,LN,simprocAttr,DT]at e_h7
    conv=>arg 1;simp (disch:=first|exact Zd|fail) only[ZZ,d4_at,simprocAttr,aop_callC,aq_callC,H8,h1',h1,e_h2,e_h3,e_h4,e_h5,h6',e_h7]
    refine J.eq ret_seq ?_
    refine J.some ?_
    simp (maxSteps:=20000000) (disch:=first|exact Zd|fail) only[ZZ,d4_at,simprocAttr,aop_callC,aq_callC,H8,h1',h1,e_h2,e_h3,e_h4,e_h5,h6',e_h7,FN]
   ·have h6':=decide_eq_false h6
    conv=>arg 1;simp (disch:=first|exact Zd|fail) only[ZZ,d4_at,simprocAttr,aop_callC,aq_callC,H8,h1',h1,e_h2,e_h3,e_h4,e_h5,h6']
    refine J.eq ret_seq ?_
    refine J.some ?_
    simp (maxSteps:=20000000) (disch:=first|exact Zd|fail) only[ZZ,d4_at,simprocAttr,aop_callC,aq_callC,H8,h1',h1,e_h2,e_h3,e_h4,e_h5,h6',FN]
  ·refine J.hd jn_at ?_
   refine J.eq go_seq ?_
   refine J.bind λx8 h8=> ?_
   have e_h8:=H11_0 _ _ h8
   try simp only[NN,NT,LN,simprocAttr,DT]at e_h8
   conv=>arg 1;simp (disch:=first|exact Zd|fail) only[ZZ,d4_at,simprocAttr,aop_callC,aq_callC,H8,h1',h1,e_h8]
   refine J.ite (λh9=> ?_) (λh9=> ?_)
   ·have h9':=decide_eq_true h9
    conv=>arg 1;simp (disch:=first|exact Zd|fail) only[ZZ,d4_at,simprocAttr,aop_callC,aq_callC,H8,h1',h1,e_h8,h9']
    refine J.ite (λh10=> ?_) (λh10=> ?_)
    ·have h10':=decide_eq_true h10
     conv=>arg 1;simp (disch:=first|exact Zd|fail) only[ZZ,d4_at,simprocAttr,aop_callC,aq_callC,H8,h1',h1,e_h8,h9',h10']
     refine J.eq ret_seq ?_
     conv=>arg 1;simp (disch:=first|exact Zd|fail) only[ZZ,d4_at,simprocAttr,aop_callC,aq_callC,H8,h1',h1,e_h8,h9',h10']
     refine J.ite (λh11=> ?_) (λh11=> ?_)
     ·have h11':=decide_eq_true h11
      have h11'':decide ((band .i64 x1 3)<=1)=false:=decide_eq_false (by omega)
      exact absurd h11 (by omega)
     ·have h11':=decide_eq_false h11
      have h11'':decide ((band .i64 x1 3)<=1)=true:=decide_eq_true (by omega)
      conv=>arg 1;simp (disch:=first|exact Zd|fail) only[ZZ,d4_at,simprocAttr,aop_callC,aq_callC,H8,h1',h1,e_h8,h9',h10',h11'',h11']
      refine J.jmp (t:=()) hj1 ?_ ?_
      ·exact Ze
      ·exact Zh
    ·have h10':=decide_eq_false h10
     conv=>arg 1;simp (disch:=first|exact Zd|fail) only[ZZ,d4_at,simprocAttr,aop_callC,aq_callC,H8,h1',h1,e_h8,h9',h10']
     refine J.eq ret_seq ?_
     conv=>arg 1;simp (disch:=first|exact Zd|fail) only[ZZ,d4_at,simprocAttr,aop_callC,aq_callC,H8,h1',h1,e_h8,h9',h10']
     refine J.jmp (t:=()) hj1 ?_ ?_
     ·exact Ze
     ·exact Zh
   ·have h9':=decide_eq_false h9
    conv=>arg 1;simp (disch:=first|exact Zd|fail) only[ZZ,d4_at,simprocAttr,aop_callC,aq_callC,H8,h1',h1,e_h8,h9']
    refine J.eq ret_seq ?_
    refine J.some ?_
    simp (maxSteps:=20000000) (disch:=first|exact Zd|fail) only[ZZ,d4_at,simprocAttr,aop_callC,aq_callC,H8,h1',h1,e_h8,h9',FN]
 ·have h1':=decide_eq_false h1
  conv=>arg 1;simp (disch:=first|exact Zd|fail) only[ZZ,d4_at,simprocAttr,aop_callC,aq_callC,H8,h1']
  refine J.ite (λh12=> ?_) (λh12=> ?_)
  ·have h12':=decide_eq_true h12
   conv=>arg 1;simp (disch:=first|exact Zd|fail) only[ZZ,d4_at,simprocAttr,aop_callC,aq_callC,H8,h1',h12',h12]
   refine J.joinS (λ(t:Unit)=>([(3,.ptr (0,3,0) 0 0),(5,.v (.bool true)),(6,.v (.int .i64 68))],[((0,3,0),.bx true ([.v (.int .i64 x2.fType),.arr x2.fDims.length (lm (ik .i64) x2.fDims),.arr x2.fF.length (lm (ik .u32) x2.fF),.arr x2.fI.length (lm (ik .i64) x2.fI),.arr x2.fB.length (lm (bk) x2.fB)]))])) (λt=>law13_ReduceOrder.k2 fu x2) ?_ (λhj2=> ?_)
   ·rintro⟨⟩
    show J _ (law13_ReduceOrder.k2 fu x2) _
    unfold law13_ReduceOrder.k2
    refine J.bind λx9 h13=> ?_
    have e_h13:=H12_0 _ _ h13
    try simp only[NN,NT,LN,simprocAttr,DT]at e_h13
    refine J.bind λx10 h14=> ?_
    have e_h14:=H13_0 _ _ _ _ h14
    try simp only[NN,NT,LN,simprocAttr,DT]at e_h14
    refine J.bind λx11 h15=> ?_
    have e_h15:=H14_0 _ _ h15
    try simp only[NN,NT,LN,simprocAttr,DT]at e_h15
    refine J.bind λx12 h16=> ?_
    have e_h16:=H13_0 _ _ _ _ h16
    try simp only[NN,NT,LN,simprocAttr,DT]at e_h16
    conv=>arg 1;simp (disch:=first|exact Zd|fail) only[ZZ,d4_at,simprocAttr,aop_callC,aq_callC,H8,h1',h12',h12,e_h13,e_h14,e_h15,e_h16]
    refine J.eq go_seq ?_
    conv=>arg 1;simp (disch:=first|exact Zd|fail) only[ZZ,d4_at,simprocAttr,aop_callC,aq_callC,H8,h1',h12',h12,e_h13,e_h14,e_h15,e_h16]
    refine J.ite (λh17=> ?_) (λh17=> ?_)
    ·have h17':=decide_eq_true h17
     refine J.bind λx13 h18=> ?_
     have e_h18:=H15_0 _ _ _ h18
     try simp only[NN,NT,LN,simprocAttr,DT]at e_h18
     conv=>arg 1;simp (disch:=first|exact Zd|fail) only[ZZ,d4_at,simprocAttr,aop_callC,aq_callC,H8,h1',h12',h12,e_h13,e_h14,e_h15,e_h16,h17',e_h18]
     refine J.eq ret_seq ?_
     refine J.some ?_
     simp (maxSteps:=20000000) (disch:=first|exact Zd|fail) only[ZZ,d4_at,simprocAttr,aop_callC,aq_callC,H8,h1',h12',h12,e_h13,e_h14,e_h15,e_h16,h17',e_h18,FN]
    ·have h17':=decide_eq_false h17
     conv=>arg 1;simp (disch:=first|exact Zd|fail) only[ZZ,d4_at,simprocAttr,aop_callC,aq_callC,H8,h1',h12',h12,e_h13,e_h14,e_h15,e_h16,h17']
     refine J.eq ret_seq ?_
     refine J.some ?_
     simp (maxSteps:=20000000) (disch:=first|exact Zd|fail) only[ZZ,d4_at,simprocAttr,aop_callC,aq_callC,H8,h1',h12',h12,e_h13,e_h14,e_h15,e_h16,h17',FN]
   ·refine J.hd jn_at ?_
    refine J.eq go_seq ?_
    refine J.bind λx14 h19=> ?_
    have e_h19:=H11_0 _ _ h19
    try simp only[NN,NT,LN,simprocAttr,DT]at e_h19
    conv=>arg 1;simp (disch:=first|exact Zd|fail) only[ZZ,d4_at,simprocAttr,aop_callC,aq_callC,H8,h1',h12',h12,e_h19]
    refine J.ite (λh20=> ?_) (λh20=> ?_)
    ·have h20':=decide_eq_true h20
     conv=>arg 1;simp (disch:=first|exact Zd|fail) only[ZZ,d4_at,simprocAttr,aop_callC,aq_callC,H8,h1',h12',h12,e_h19,h20']
     refine J.ite (λh21=> ?_) (λh21=> ?_)
     ·have h21':=decide_eq_true h21
      conv=>arg 1;simp (disch:=first|exact Zd|fail) only[ZZ,d4_at,simprocAttr,aop_callC,aq_callC,H8,h1',h12',h12,e_h19,h20',h21']
      refine J.eq ret_seq ?_
      conv=>arg 1;simp (disch:=first|exact Zd|fail) only[ZZ,d4_at,simprocAttr,aop_callC,aq_callC,H8,h1',h12',h12,e_h19,h20',h21']
      refine J.ite (λh22=> ?_) (λh22=> ?_)
      ·have h22':=decide_eq_true h22
       have h22'':decide ((band .i64 x1 3)<=1)=false:=decide_eq_false (by omega)
       exact absurd h22 (by omega)
      ·have h22':=decide_eq_false h22
       have h22'':decide ((band .i64 x1 3)<=1)=true:=decide_eq_true (by omega)
       conv=>arg 1;simp (disch:=first|exact Zd|fail) only[ZZ,d4_at,simprocAttr,aop_callC,aq_callC,H8,h1',h12',h12,e_h19,h20',h21',h22'',h22']
       refine J.jmp (t:=()) hj2 ?_ ?_
       ·exact Ze
       ·exact Zh
     ·have h21':=decide_eq_false h21
      conv=>arg 1;simp (disch:=first|exact Zd|fail) only[ZZ,d4_at,simprocAttr,aop_callC,aq_callC,H8,h1',h12',h12,e_h19,h20',h21']
      refine J.eq ret_seq ?_
      conv=>arg 1;simp (disch:=first|exact Zd|fail) only[ZZ,d4_at,simprocAttr,aop_callC,aq_callC,H8,h1',h12',h12,e_h19,h20',h21']
      refine J.jmp (t:=()) hj2 ?_ ?_
      ·exact Ze
      ·exact Zh
    ·have h20':=decide_eq_false h20
     conv=>arg 1;simp (disch:=first|exact Zd|fail) only[ZZ,d4_at,simprocAttr,aop_callC,aq_callC,H8,h1',h12',h12,e_h19,h20']
     refine J.eq ret_seq ?_
     refine J.some ?_
     simp (maxSteps:=20000000) (disch:=first|exact Zd|fail) only[ZZ,d4_at,simprocAttr,aop_callC,aq_callC,H8,h1',h12',h12,e_h19,h20',FN]
  ·have h12':=decide_eq_false h12
   conv=>arg 1;simp (disch:=first|exact Zd|fail) only[ZZ,d4_at,simprocAttr,aop_callC,aq_callC,H8,h1',h12']
   refine J.ite (λh23=> ?_) (λh23=> ?_)
   ·have h23':=decide_eq_true h23
    conv=>arg 1;simp (disch:=first|exact Zd|fail) only[ZZ,d4_at,simprocAttr,aop_callC,aq_callC,H8,h1',h12',h23',h23]
    refine J.joinS (λ(t:Unit)=>([(3,.ptr (0,3,0) 0 0),(5,.v (.bool true)),(6,.v (.int .i64 65))],[((0,3,0),.bx true ([.v (.int .i64 x2.fType),.arr x2.fDims.length (lm (ik .i64) x2.fDims),.arr x2.fF.length (lm (ik .u32) x2.fF),.arr x2.fI.length (lm (ik .i64) x2.fI),.arr x2.fB.length (lm (bk) x2.fB)]))])) (λt=>law13_ReduceOrder.k3 fu x2) ?_ (λhj3=> ?_)
    ·rintro⟨⟩
     show J _ (law13_ReduceOrder.k3 fu x2) _
     unfold law13_ReduceOrder.k3
     refine J.bind λx15 h24=> ?_
     have e_h24:=H12_0 _ _ h24
     try simp only[NN,NT,LN,simprocAttr,DT]at e_h24
     refine J.bind λx16 h25=> ?_
     have e_h25:=H13_0 _ _ _ _ h25
     try simp only[NN,NT,LN,simprocAttr,DT]at e_h25
     refine J.bind λx17 h26=> ?_
     have e_h26:=H14_0 _ _ h26
     try simp only[NN,NT,LN,simprocAttr,DT]at e_h26
     refine J.bind λx18 h27=> ?_
     have e_h27:=H13_0 _ _ _ _ h27
     try simp only[NN,NT,LN,simprocAttr,DT]at e_h27
     conv=>arg 1;simp (disch:=first|exact Zd|fail) only[ZZ,d4_at,simprocAttr,aop_callC,aq_callC,H8,h1',h12',h23',h23,e_h24,e_h25,e_h26,e_h27]
     refine J.eq go_seq ?_
     conv=>arg 1;simp (disch:=first|exact Zd|fail) only[ZZ,d4_at,simprocAttr,aop_callC,aq_callC,H8,h1',h12',h23',h23,e_h24,e_h25,e_h26,e_h27]
     refine J.ite (λh28=> ?_) (λh28=> ?_)
     ·have h28':=decide_eq_true h28
      refine J.bind λx19 h29=> ?_
      have e_h29:=H15_0 _ _ _ h29
      try simp only[NN,NT,LN,simprocAttr,DT]at e_h29
      conv=>arg 1;simp (disch:=first|exact Zd|fail) only[ZZ,d4_at,simprocAttr,aop_callC,aq_callC,H8,h1',h12',h23',h23,e_h24,e_h25,e_h26,e_h27,h28',e_h29]
      refine J.eq ret_seq ?_
      refine J.some ?_
      simp (maxSteps:=20000000) (disch:=first|exact Zd|fail) only[ZZ,d4_at,simprocAttr,aop_callC,aq_callC,H8,h1',h12',h23',h23,e_h24,e_h25,e_h26,e_h27,h28',e_h29,FN]
     ·have h28':=decide_eq_false h28
      conv=>arg 1;simp (disch:=first|exact Zd|fail) only[ZZ,d4_at,simprocAttr,aop_callC,aq_callC,H8,h1',h12',h23',h23,e_h24,e_h25,e_h26,e_h27,h28']
      refine J.eq ret_seq ?_
      refine J.some ?_
      simp (maxSteps:=20000000) (disch:=first|exact Zd|fail) only[ZZ,d4_at,simprocAttr,aop_callC,aq_callC,H8,h1',h12',h23',h23,e_h24,e_h25,e_h26,e_h27,h28',FN]
    ·refine J.hd jn_at ?_
     refine J.eq go_seq ?_
     refine J.bind λx20 h30=> ?_
     have e_h30:=H11_0 _ _ h30
     try simp only[NN,NT,LN,simprocAttr,DT]at e_h30
     conv=>arg 1;simp (disch:=first|exact Zd|fail) only[ZZ,d4_at,simprocAttr,aop_callC,aq_callC,H8,h1',h12',h23',h23,e_h30]
     refine J.ite (λh31=> ?_) (λh31=> ?_)
     ·have h31':=decide_eq_true h31
      conv=>arg 1;simp (disch:=first|exact Zd|fail) only[ZZ,d4_at,simprocAttr,aop_callC,aq_callC,H8,h1',h12',h23',h23,e_h30,h31']
      refine J.ite (λh32=> ?_) (λh32=> ?_)
      ·have h32':=decide_eq_true h32
       conv=>arg 1;simp (disch:=first|exact Zd|fail) only[ZZ,d4_at,simprocAttr,aop_callC,aq_callC,H8,h1',h12',h23',h23,e_h30,h31',h32']
       refine J.eq ret_seq ?_
       conv=>arg 1;simp (disch:=first|exact Zd|fail) only[ZZ,d4_at,simprocAttr,aop_callC,aq_callC,H8,h1',h12',h23',h23,e_h30,h31',h32']
       refine J.ite (λh33=> ?_) (λh33=> ?_)
       ·have h33':=decide_eq_true h33
        have h33'':decide ((band .i64 x1 3)<=1)=false:=decide_eq_false (by omega)
        refine J.some ?_
        simp (maxSteps:=20000000) (disch:=first|exact Zd|fail) only[ZZ,d4_at,simprocAttr,aop_callC,aq_callC,H8,h1',h12',h23',h23,e_h30,h31',h32',h33'',h33',FN]
       ·have h33':=decide_eq_false h33
        have h33'':decide ((band .i64 x1 3)<=1)=true:=decide_eq_true (by omega)
        exact absurd (show(1:Int)<band .i64 x1 3 by omega) h33
      ·have h32':=decide_eq_false h32
       conv=>arg 1;simp (disch:=first|exact Zd|fail) only[ZZ,d4_at,simprocAttr,aop_callC,aq_callC,H8,h1',h12',h23',h23,e_h30,h31',h32']
       refine J.eq ret_seq ?_
       conv=>arg 1;simp (disch:=first|exact Zd|fail) only[ZZ,d4_at,simprocAttr,aop_callC,aq_callC,H8,h1',h12',h23',h23,e_h30,h31',h32']
       refine J.jmp (t:=()) hj3 ?_ ?_
       ·exact Ze
       ·exact Zh
     ·have h31':=decide_eq_false h31
      conv=>arg 1;simp (disch:=first|exact Zd|fail) only[ZZ,d4_at,simprocAttr,aop_callC,aq_callC,H8,h1',h12',h23',h23,e_h30,h31']
      refine J.eq ret_seq ?_
      refine J.some ?_
      simp (maxSteps:=20000000) (disch:=first|exact Zd|fail) only[ZZ,d4_at,simprocAttr,aop_callC,aq_callC,H8,h1',h12',h23',h23,e_h30,h31',FN]
   ·have h23':=decide_eq_false h23
    conv=>arg 1;simp (disch:=first|exact Zd|fail) only[ZZ,d4_at,simprocAttr,aop_callC,aq_callC,H8,h1',h12',h23']
    refine J.ite (λh34=> ?_) (λh34=> ?_)
    ·have h34':=decide_eq_true h34
     conv=>arg 1;simp (disch:=first|exact Zd|fail) only[ZZ,d4_at,simprocAttr,aop_callC,aq_callC,H8,h1',h12',h23',h34',h34]
     refine J.joinS (λ(t:Unit)=>([(3,.ptr (0,3,0) 0 0),(5,.v (.bool true)),(6,.v (.int .i64 69))],[((0,3,0),.bx true ([.v (.int .i64 x2.fType),.arr x2.fDims.length (lm (ik .i64) x2.fDims),.arr x2.fF.length (lm (ik .u32) x2.fF),.arr x2.fI.length (lm (ik .i64) x2.fI),.arr x2.fB.length (lm (bk) x2.fB)]))])) (λt=>law13_ReduceOrder.k4 fu x2) ?_ (λhj4=> ?_)
     ·rintro⟨⟩
      show J _ (law13_ReduceOrder.k4 fu x2) _
      unfold law13_ReduceOrder.k4
      refine J.bind λx21 h35=> ?_
      have e_h35:=H12_0 _ _ h35
      try simp only[NN,NT,LN,simprocAttr,DT]at e_h35
      refine J.bind λx22 h36=> ?_
      have e_h36:=H13_0 _ _ _ _ h36
      try simp only[NN,NT,LN,simprocAttr,DT]at e_h36
      refine J.bind λx23 h37=> ?_
      have e_h37:=H14_0 _ _ h37
      try simp only[NN,NT,LN,simprocAttr,DT]at e_h37
      refine J.bind λx24 h38=> ?_
      have e_h38:=H13_0 _ _ _ _ h38
      try simp only[NN,NT,LN,simprocAttr,DT]at e_h38
      conv=>arg 1;simp (disch:=first|exact Zd|fail) only[ZZ,d4_at,simprocAttr,aop_callC,aq_callC,H8,h1',h12',h23',h34',h34,e_h35,e_h36,e_h37,e_h38]
      refine J.eq go_seq ?_
      conv=>arg 1;simp (disch:=first|exact Zd|fail) only[ZZ,d4_at,simprocAttr,aop_callC,aq_callC,H8,h1',h12',h23',h34',h34,e_h35,e_h36,e_h37,e_h38]
      refine J.ite (λh39=> ?_) (λh39=> ?_)
      ·have h39':=decide_eq_true h39
       refine J.bind λx25 h40=> ?_
       have e_h40:=H15_0 _ _ _ h40
       try simp only[NN,NT,LN,simprocAttr,DT]at e_h40
       conv=>arg 1;simp (disch:=first|exact Zd|fail) only[ZZ,d4_at,simprocAttr,aop_callC,aq_callC,H8,h1',h12',h23',h34',h34,e_h35,e_h36,e_h37,e_h38,h39',e_h40]
       refine J.eq ret_seq ?_
       refine J.some ?_
       simp (maxSteps:=20000000) (disch:=first|exact Zd|fail) only[ZZ,d4_at,simprocAttr,aop_callC,aq_callC,H8,h1',h12',h23',h34',h34,e_h35,e_h36,e_h37,e_h38,h39',e_h40,FN]
      ·have h39':=decide_eq_false h39
       conv=>arg 1;simp (disch:=first|exact Zd|fail) only[ZZ,d4_at,simprocAttr,aop_callC,aq_callC,H8,h1',h12',h23',h34',h34,e_h35,e_h36,e_h37,e_h38,h39']
       refine J.eq ret_seq ?_
       refine J.some ?_
       simp (maxSteps:=20000000) (disch:=first|exact Zd|fail) only[ZZ,d4_at,simprocAttr,aop_callC,aq_callC,H8,h1',h12',h23',h34',h34,e_h35,e_h36,e_h37,e_h38,h39',FN]
     ·refine J.hd jn_at ?_
      refine J.eq go_seq ?_
      refine J.bind λx26 h41=> ?_
      have e_h41:=H11_0 _ _ h41
      try simp only[NN,NT,LN,simprocAttr,DT]at e_h41
      conv=>arg 1;simp (disch:=first|exact Zd|fail) only[ZZ,d4_at,simprocAttr,aop_callC,aq_callC,H8,h1',h12',h23',h34',h34,e_h41]
      refine J.ite (λh42=> ?_) (λh42=> ?_)
      ·have h42':=decide_eq_true h42
       conv=>arg 1;simp (disch:=first|exact Zd|fail) only[ZZ,d4_at,simprocAttr,aop_callC,aq_callC,H8,h1',h12',h23',h34',h34,e_h41,h42']
       refine J.ite (λh43=> ?_) (λh43=> ?_)
       ·have h43':=decide_eq_true h43
        conv=>arg 1;simp (disch:=first|exact Zd|fail) only[ZZ,d4_at,simprocAttr,aop_callC,aq_callC,H8,h1',h12',h23',h34',h34,e_h41,h42',h43']
        refine J.eq ret_seq ?_
        conv=>arg 1;simp (disch:=first|exact Zd|fail) only[ZZ,d4_at,simprocAttr,aop_callC,aq_callC,H8,h1',h12',h23',h34',h34,e_h41,h42',h43']
        refine J.ite (λh44=> ?_) (λh44=> ?_)
        ·have h44':=decide_eq_true h44
         have h44'':decide ((band .i64 x1 3)<=1)=false:=decide_eq_false (by omega)
         refine J.some ?_
         simp (maxSteps:=20000000) (disch:=first|exact Zd|fail) only[ZZ,d4_at,simprocAttr,aop_callC,aq_callC,H8,h1',h12',h23',h34',h34,e_h41,h42',h43',h44'',h44',FN]
        ·have h44':=decide_eq_false h44
         have h44'':decide ((band .i64 x1 3)<=1)=true:=decide_eq_true (by omega)
         exact absurd (show(1:Int)<band .i64 x1 3 by omega) h44
       ·have h43':=decide_eq_false h43
        conv=>arg 1;simp (disch:=first|exact Zd|fail) only[ZZ,d4_at,simprocAttr,aop_callC,aq_callC,H8,h1',h12',h23',h34',h34,e_h41,h42',h43']
        refine J.eq ret_seq ?_
        conv=>arg 1;simp (disch:=first|exact Zd|fail) only[ZZ,d4_at,simprocAttr,aop_callC,aq_callC,H8,h1',h12',h23',h34',h34,e_h41,h42',h43']
        refine J.jmp (t:=()) hj4 ?_ ?_
        ·exact Ze
        ·exact Zh
      ·have h42':=decide_eq_false h42
       conv=>arg 1;simp (disch:=first|exact Zd|fail) only[ZZ,d4_at,simprocAttr,aop_callC,aq_callC,H8,h1',h12',h23',h34',h34,e_h41,h42']
       refine J.eq ret_seq ?_
       refine J.some ?_
       simp (maxSteps:=20000000) (disch:=first|exact Zd|fail) only[ZZ,d4_at,simprocAttr,aop_callC,aq_callC,H8,h1',h12',h23',h34',h34,e_h41,h42',FN]
    ·have h34':=decide_eq_false h34
     exact J.none
noncomputable def t4(fu:Nat):CallP:=orE 8 (mkC (λ(_:Unit)=>([]:List AV)) (λ_=>some true) (λb=> .v (.bool b))) (orE 11 (mkC (λ(t:T_Tensor)=>([.agg (c_T_Tensor t)]:List AV)) (λt=>ref05_Check fu t) e11) (orE 12 (mkC (λ(t:T_Tensor)=>([.agg (c_T_Tensor t)]:List AV)) (λt=>ref05_Copy fu t) e12) (orE 13 (mkC (λ(t:Int×T_Setting×(List T_Tensor))=>([.v (.int .i64 t.1),.agg (c_T_Setting t.2.1),.arr t.2.2.length (fm c_T_Tensor t.2.2)]:List AV)) (λt=>reduce_Do fu t.1 t.2.1 t.2.2) e13) (orE 14 (mkC (λ(t:T_Tensor)=>([.agg (c_T_Tensor t)]:List AV)) (λt=>law13_turned fu t) e14) (orE 15 (mkC (λ(t:T_Tensor×T_Tensor)=>([.agg (c_T_Tensor t.1),.agg (c_T_Tensor t.2)]:List AV)) (λt=>ref05_Same fu t.1 t.2) e15) (noP))))))
theorem t4_ok(fu:Nat):CpOK Tryz.prog (t4 fu):=orE_ok (orE_ok (orE_ok (orE_ok (orE_ok (orE_ok (noP_ok) (mkC_ok (λt b h=>ok15 fu t.1 t.2 b h))) (mkC_ok (λt b h=>ok14 fu t b h))) (mkC_ok (λt b h=>ok13 fu t.1 t.2.1 t.2.2 b h))) (mkC_ok (λt b h=>ok12 fu t b h))) (mkC_ok (λt b h=>ok11 fu t b h))) (mkC_ok (λ_ b h=>by injection h with h;subst h;exact awake8))
theorem ok4(fu:Nat)(x1:Int)(x2:T_Tensor)(r)(h:law13_ReduceOrder fu x1 x2=some r):PureOK Tryz.prog 4 [.v (.int .i64 x1),.agg (c_T_Tensor x2)] (e4 r):=
  pure_J mixed (cp:=t4 fu) (t4_ok fu) noI_ok i4 (w4 _ fu x1 x2 (orE_hit (mkC_at (a:=()) (λ_ _ _=>rfl) rfl)) (λa0 r h=>orE_miss (by decide) (orE_hit (mkC_at (a:=a0) (by intro a b h;first|(exact rfl)|(simp only[INJ,IJ]at h;first|exact h|(simp_all [Prod.ext_iff]))) h))) (λa0 r h=>orE_miss (by decide) (orE_miss (by decide) (orE_hit (mkC_at (a:=a0) (by intro a b h;first|(exact rfl)|(simp only[INJ,IJ]at h;first|exact h|(simp_all [Prod.ext_iff]))) h)))) (λa0 a1 a2 r h=>orE_miss (by decide) (orE_miss (by decide) (orE_miss (by decide) (orE_hit (mkC_at (a:=(a0,a1,a2)) (by intro a b h;first|(exact rfl)|(simp only[INJ,IJ]at h;first|exact h|(simp_all [Prod.ext_iff]))) h))))) (λa0 r h=>orE_miss (by decide) (orE_miss (by decide) (orE_miss (by decide) (orE_miss (by decide) (orE_hit (mkC_at (a:=a0) (by intro a b h;first|(exact rfl)|(simp only[INJ,IJ]at h;first|exact h|(simp_all [Prod.ext_iff]))) h)))))) (λa0 a1 r h=>orE_miss (by decide) (orE_miss (by decide) (orE_miss (by decide) (orE_miss (by decide) (orE_miss (by decide) (orE_hit (mkC_at (a:=(a0,a1)) (by intro a b h;first|(exact rfl)|(simp only[INJ,IJ]at h;first|exact h|(simp_all [Prod.ext_iff]))) h)))))))) h
end Go.Av
