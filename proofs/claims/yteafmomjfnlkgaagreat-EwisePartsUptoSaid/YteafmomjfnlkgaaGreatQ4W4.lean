/- The walks of the plain functions, part 3. Made by a program of mine. Conditions: none. -/
import Derived.Test.YteafmomjfnlkgaaGreatQ4W3
set_option linter.unusedVariables false
set_option linter.unusedSimpArgs false
set_option linter.defProp false
set_option maxRecDepth 20000
set_option maxHeartbeats 20000000
open Go Go.Proofs
open Tryz (prog)
namespace Go.Av
variable {fu:Nat} {cp:af}
open Aw (uj uw qR uH tC tY tJ ul tV vI uh uX wu tq tu uQ uG tN vz uV uo tK vJ vU uF vF um uN uy uq uO vw uY vK vN uK uf uT ug vO uP uC ui tX tZ vV wo uA ww tH)
open Aw (d11)
def DF:TD:=zz [[3],[],[0,1,4,5,6,7,8,9,10]]
def ajo:=Da (aC DF.eq_1)
theorem i67:au prog 67 DF=some ⟨ae Tryz.f67,[.tmp 3],[4]⟩:=fA Tryz.func67
def Uz:Bool->AV:=λr=> .v (.bool r)
theorem w67(cp:af)(fu:Nat)(x1:Int)(x2:Int):J (go prog ak cp aj 0 [] DF fu (fin prog [.tmp 3] [4]) (ae Tryz.f67) (ay 0 [.v (.int .i64 x1),.aF [.v (.int .i64 x2)] 0]) [] []) (ut fu x1 x2) Uz:=by
 unfold ut Uz
 have da:=ajo
 conv=>arg 1;simp only[ae,Tryz.f67]
 have z0:=ajo
 exact Wk
theorem aqQ(fu:Nat)(x1:Int)(x2:Int)(r)(h:ut fu x1 x2=some r):aA prog 67 [.v (.int .i64 x1),.aF [.v (.int .i64 x2)] 0] (Uz r):=aH mixed [] (ids:=[]) rfl (by decide) i67 (C:=ak) (ci:=λcp=>aj) (λcp ok=>aB) (λcp H=>w67 cp fu x1 x2) h
def D9:TD:=zz [[8,9],[0,1,11,12,13],[2],[6,7],[],[],[15,16,17],[],[18],[],[20,21,22,23,24,25,26],[],[27]]
def cZ:=Da (aC D9.eq_1)
noncomputable def Wi:Code:=ae Tryz.f68
theorem df{C:bn}{cp:af}{ci:bg}{lvl:Nat}{prot:List Id}{D:TD}{n:Nat}{K:KK}{e:Env}{h:Heap}{fs:List Fr}:go prog C cp ci lvl prot D n K Wi e h fs=go prog C cp ci lvl prot D n K (ae Tryz.f68) e h fs:=rfl
theorem i68:au prog 68 D9=some ⟨Wi,[],[]⟩:=fA Tryz.func68
def Bz:TD:=zz [[8,9],[0,1,11,12,13],[2],[6,7],[],[],[15,16,17],[],[18],[],[20,21,22,23,24,25,26],[],[27]]
def dn:=Da (aC Bz.eq_1)
noncomputable def J3:Code:=ae Tryz.f69
theorem di{C:bn}{cp:af}{ci:bg}{lvl:Nat}{prot:List Id}{D:TD}{n:Nat}{K:KK}{e:Env}{h:Heap}{fs:List Fr}:go prog C cp ci lvl prot D n K J3 e h fs=go prog C cp ci lvl prot D n K (ae Tryz.f69) e h fs:=rfl
theorem i69:au prog 69 Bz=some ⟨J3,[],[]⟩:=fA Tryz.func69
def wU:TD:=zz [[8,9],[0,1,11,12,13],[2],[6,7],[],[],[15,16,17],[],[18],[],[20,21,22,23,24,25,26],[],[27]]
def dA:=Da (aC wU.eq_1)
noncomputable def EK:Code:=ae Tryz.f70
theorem dw{C:bn}{cp:af}{ci:bg}{lvl:Nat}{prot:List Id}{D:TD}{n:Nat}{K:KK}{e:Env}{h:Heap}{fs:List Fr}:go prog C cp ci lvl prot D n K EK e h fs=go prog C cp ci lvl prot D n K (ae Tryz.f70) e h fs:=rfl
theorem i70:au prog 70 wU=some ⟨EK,[],[]⟩:=fA Tryz.func70
def Dp:TD:=zz [[0,7],[],[12,13],[],[14],[],[16,17],[],[1,8,18,19,20,21,22,23,24],[],[25],[],[27,28],[],[10,29,30,31,32,33,34,35,36,37,38,39],[],[40,41,42,43,44,45,46,47,48,49,50,51,52],[],[54],[],[11,55,56],[],[58],[],[59,60,61,62,63,64],[],[65,66,67,68,69,70],[],[2,3,71,72,73,74,75,76],[],[9,77]]
def bG:=Da (aC Dp.eq_1)
theorem i34:au prog 34 Dp=some ⟨ae Tryz.f34,[.cell 6 28,.tmp 7],[28,34]⟩:=fA Tryz.func34
def e34:(T_Tensor×Int)->AV:=λr=> .tuple [.agg [.v (.int .i64 r.1.fType),.fresh 1 r.1.fDims.length (lm (ik .i64) r.1.fDims),.fresh 1 r.1.fF.length (lm (ik .u32) r.1.fF),.fresh 1 r.1.fI.length (lm (ik .i64) r.1.fI),.fresh 1 r.1.fB.length (lm (bk) r.1.fB)],.v (.int .i64 r.2)]
theorem w34(cp:af)(fu:Nat)(x1:T_Tensor)(x2:List Int)(x3:List Int)(H50_0: ∀ (a0:T_Tensor) r,jP fu a0=some r→cp 50 [.agg (bV a0)]=some (.v (.int .i64 r)))(H53_0: ∀ (a0:Int) (a1:List Int) r,qM fu a0 a1=some r→cp 53 [.v (.int .i64 a0),.arr a1.length (lm (ik .i64) a1)]=some (.tuple [.agg [.v (.int .i64 r.1.fType),.fresh 1 r.1.fDims.length (lm (ik .i64) r.1.fDims),.fresh 1 r.1.fF.length (lm (ik .u32) r.1.fF),.fresh 1 r.1.fI.length (lm (ik .i64) r.1.fI),.fresh 1 r.1.fB.length (lm (bk) r.1.fB)],.v (.int .i64 r.2)]))(H66_0: ∀ (a0:List Int) (c1:Int) r,oM fu a0 (fun y0=>ut fu y0 c1)=some r→cp 66 [.arr a0.length (lm (ik .i64) a0),.fn 67 [] [.aF [.v (.int .i64 c1)] 0]]=some (.v (.bool r))):J (go prog (bH [68,69,70]) cp (dO prog (bH [68,69,70]) cp (dO prog (bH [68,69,70]) cp (dO prog (bH [68,69,70]) cp aj fu 70 wU ⟨EK,[],[]⟩ aj) fu 69 Bz ⟨J3,[],[]⟩ (dO prog (bH [68,69,70]) cp aj fu 70 wU ⟨EK,[],[]⟩ aj)) fu 68 D9 ⟨Wi,[],[]⟩ (dO prog (bH [68,69,70]) cp (dO prog (bH [68,69,70]) cp aj fu 70 wU ⟨EK,[],[]⟩ aj) fu 69 Bz ⟨J3,[],[]⟩ (dO prog (bH [68,69,70]) cp aj fu 70 wU ⟨EK,[],[]⟩ aj))) 0 [] Dp fu (fin prog [.cell 6 28,.tmp 7] [28,34]) (ae Tryz.f34) (ay 0 [.agg (bV x1),.arr x2.length (lm (ik .i64) x2),.arr x3.length (lm (ik .i64) x3)]) [] []) (bC fu x1 x2 x3) e34:=by
 unfold bC e34
 have da:=bG
 conv=>arg 1;simp (disch:=first|exact Zd|fail) only[ae,Tryz.f34,ZZ,bG,simprocAttr,RI,iO,ay]
 refine J.eq dZ ?_
 refine J.bind λx4 h1=> ?_
 have e_h1:=H50_0 _ _ h1
 try simp only[NN,NT,LN,simprocAttr,DT]at e_h1
 conv=>arg 1;simp (disch:=first|exact Zd|fail) only[ZZ,bG,simprocAttr,RI,iO,ay,e_h1]
 refine J.ite (λh2=> ?_) (λh2=> ?_)
 ·have h2' :=decide_eq_true h2
  conv=>arg 1;simp (disch:=first|exact Zd|fail) only[ZZ,bG,simprocAttr,RI,iO,ay,e_h1,h2']
  refine J.eq dS ?_
  refine J.bind λx5 h3=> ?_
  have e_h3:=H53_0 _ _ _ h3
  try simp only[NN,NT,LN,simprocAttr,DT]at e_h3
  conv=>arg 1;simp (disch:=first|exact Zd|fail) only[ZZ,bG,simprocAttr,RI,iO,ay,e_h1,h2',e_h3]
  refine J.eq dZ ?_
  conv=>arg 1;simp (disch:=first|exact Zd|fail) only[ZZ,bG,simprocAttr,RI,iO,ay,e_h1,h2',e_h3]
  refine J.ite (λh4=> ?_) (λh4=> ?_)
  ·have h4':=decide_eq_true h4
   conv=>arg 1;simp (disch:=first|exact Zd|fail) only[ZZ,bG,simprocAttr,RI,iO,ay,e_h1,h2',e_h3,h4']
   refine J.eq dS ?_
   conv=>arg 1;simp (disch:=first|exact Zd|fail) only[ZZ,bG,simprocAttr,RI,iO,ay,e_h1,h2',e_h3,h4']
   refine J.eq dZ ?_
   conv=>arg 1;simp (disch:=first|exact Zd|fail) only[ZZ,bG,simprocAttr,RI,iO,ay,e_h1,h2',e_h3,h4']
   refine J.ite (λh5=> ?_) (λh5=> ?_)
   ·have h5':=decide_eq_true h5
    conv=>arg 1;simp (disch:=first|exact Zd|fail) only[ZZ,bG,simprocAttr,RI,iO,ay,e_h1,h2',e_h3,h4',h5']
    refine J.eq dS ?_
    refine J.eq dZ ?_
    refine J.bind λx6 h6=> ?_
    have e_h6:=H66_0 _ _ _ h6
    try simp only[NN,NT,LN,simprocAttr,DT]at e_h6
    conv=>arg 1;simp (disch:=first|exact Zd|fail) only[ZZ,bG,simprocAttr,RI,iO,ay,e_h1,h2',e_h3,h4',h5',e_h6]
    refine J.ite (λh7=> ?_) (λh7=> ?_)
    ·have h7':x6=true:=h7
     refine J.some ?_
     simp (maxSteps:=20000000) (disch:=first|exact Zd|fail) only[ZZ,bG,simprocAttr,RI,iO,ay,e_h1,h2',e_h3,h4',h5',e_h6,h7',FN]
    ·have h7':x6=false:=Bool.eq_false_iff.2 h7
     conv=>arg 1;simp (disch:=first|exact Zd|fail) only[ZZ,bG,simprocAttr,RI,iO,ay,e_h1,h2',e_h3,h4',h5',e_h6,h7']
     refine J.eq dS ?_
     conv=>arg 1;simp (disch:=first|exact Zd|fail) only[ZZ,bG,simprocAttr,ae,Tryz.f68,cZ,RI,iO,ay,e_h1,h2',e_h3,h4',h5',e_h6,h7']
     refine J.SN (λ(t:List Int)=>(.tuple [],[((0,3,0),.bx true ([.v (.int .i64 x1.fType),.arr x1.fDims.length (lm (ik .i64) x1.fDims),.arr x1.fF.length (lm (ik .u32) x1.fF),.arr x1.fI.length (lm (ik .i64) x1.fI),.arr x1.fB.length (lm (bk) x1.fB)])),((0,6,0),.bx true ([.v (.int .i64 0),.v (.slice none 0 0),.v (.slice none 0 0),.v (.slice none 0 0),.v (.slice none 0 0)])),((0,22,0),.sl true true 1 x5.1.fDims.length (lm (ik .i64) x5.1.fDims)),((0,22,1),.sl true true 1 x5.1.fF.length (lm (ik .u32) t)),((0,22,2),.sl true true 1 x5.1.fI.length (lm (ik .i64) x5.1.fI)),((0,22,3),.sl true true 1 x5.1.fB.length (lm (bk) x5.1.fB)),((0,9,0),.bx true ([.v (.int .i64 x5.1.fType),.own (0,22,0) 0 x5.1.fDims.length x5.1.fDims.length,.own (0,22,1) 0 x5.1.fF.length x5.1.fF.length,.own (0,22,2) 0 x5.1.fI.length x5.1.fI.length,.own (0,22,3) 0 x5.1.fB.length x5.1.fB.length]))])) (λt=>bC.c1 fu x1 x3 x5 t) ?_ (λhj1=> ?_)
     ·rintro x7
      show J _ (bC.c1 fu x1 x3 x5 x7) _
      unfold bC.c1
      refine J.chk λh8=> ?_
      conv=>arg 1;simp (disch:=first|exact Zd|fail) only[ZZ,bG,simprocAttr,df,ae,Tryz.f68,cZ,ae,Tryz.f69,dn,RI,iO,ay,e_h1,h2',e_h3,h4',h5',e_h6,h7',h8]
      refine J.SN (λ(t:List Int)=>(.tuple [],[((0,3,0),.bx true ([.v (.int .i64 x1.fType),.arr x1.fDims.length (lm (ik .i64) x1.fDims),.arr x1.fF.length (lm (ik .u32) x1.fF),.arr x1.fI.length (lm (ik .i64) x1.fI),.arr x1.fB.length (lm (bk) x1.fB)])),((0,6,0),.bx true ([.v (.int .i64 0),.v (.slice none 0 0),.v (.slice none 0 0),.v (.slice none 0 0),.v (.slice none 0 0)])),((0,22,0),.sl true true 1 x5.1.fDims.length (lm (ik .i64) x5.1.fDims)),((0,22,1),.sl true true 1 x7.length (lm (ik .u32) x7)),((0,22,2),.sl true true 1 x5.1.fI.length (lm (ik .i64) t)),((0,22,3),.sl true true 1 x5.1.fB.length (lm (bk) x5.1.fB)),((0,9,0),.bx true ([.v (.int .i64 x5.1.fType),.own (0,22,0) 0 x5.1.fDims.length x5.1.fDims.length,.own (0,22,1) 0 x7.length x7.length,.own (0,22,2) 0 x5.1.fI.length x5.1.fI.length,.own (0,22,3) 0 x5.1.fB.length x5.1.fB.length]))])) (λt=>bC.c2 fu x1 x3 x5 x7 t) ?_ (λhj2=> ?_)
      ·rintro x8
       show J _ (bC.c2 fu x1 x3 x5 x7 x8) _
       unfold bC.c2
       refine J.chk λh9=> ?_
       conv=>arg 1;simp (disch:=first|exact Zd|fail) only[ZZ,bG,simprocAttr,df,ae,Tryz.f68,cZ,di,ae,Tryz.f69,dn,ae,Tryz.f70,dA,RI,iO,ay,e_h1,h2',e_h3,h4',h5',e_h6,h7',h8,h9]
       refine J.SN (λ(t:List Bool)=>(.tuple [],[((0,3,0),.bx true ([.v (.int .i64 x1.fType),.arr x1.fDims.length (lm (ik .i64) x1.fDims),.arr x1.fF.length (lm (ik .u32) x1.fF),.arr x1.fI.length (lm (ik .i64) x1.fI),.arr x1.fB.length (lm (bk) x1.fB)])),((0,6,0),.bx true ([.v (.int .i64 0),.v (.slice none 0 0),.v (.slice none 0 0),.v (.slice none 0 0),.v (.slice none 0 0)])),((0,22,0),.sl true true 1 x5.1.fDims.length (lm (ik .i64) x5.1.fDims)),((0,22,1),.sl true true 1 x7.length (lm (ik .u32) x7)),((0,22,2),.sl true true 1 x8.length (lm (ik .i64) x8)),((0,22,3),.sl true true 1 x5.1.fB.length (lm (bk) t)),((0,9,0),.bx true ([.v (.int .i64 x5.1.fType),.own (0,22,0) 0 x5.1.fDims.length x5.1.fDims.length,.own (0,22,1) 0 x7.length x7.length,.own (0,22,2) 0 x8.length x8.length,.own (0,22,3) 0 x5.1.fB.length x5.1.fB.length]))])) (λt=>bC.c3 fu x5 x7 x8 t) ?_ (λhj3=> ?_)
       ·rintro x9
        show J _ (bC.c3 fu x5 x7 x8 x9) _
        unfold bC.c3
        refine J.chk λh10=> ?_
        refine J.some ?_
        simp (maxSteps:=20000000) (disch:=first|exact Zd|fail) only[ZZ,bG,simprocAttr,df,ae,Tryz.f68,cZ,di,ae,Tryz.f69,dn,dw,ae,Tryz.f70,dA,RI,iO,ay,e_h1,h2',e_h3,h4',h5',e_h6,h7',h8,h9,h10,FN]
       ·refine J.hd aay ?_
        refine J.eq dw ?_
        conv=>arg 1;simp (disch:=first|exact Zd|fail) only[ZZ,bG,simprocAttr,df,ae,Tryz.f68,cZ,di,ae,Tryz.f69,dn,dw,ae,Tryz.f70,dA,RI,ay,e_h1,h2',e_h3,h4',h5',e_h6,h7',h8,h9]
        refine J.eq dZ ?_
        conv=>arg 1;simp (disch:=first|exact Zd|fail) only[ZZ,bG,simprocAttr,df,ae,Tryz.f68,cZ,di,ae,Tryz.f69,dn,dw,ae,Tryz.f70,dA,RI,ay,e_h1,h2',e_h3,h4',h5',e_h6,h7',h8,h9]
        refine J.ite (λh11=> ?_) (λh11=> ?_)
        ·have h11':=decide_eq_true h11
         conv=>arg 1;simp (disch:=first|exact Zd|fail) only[ZZ,bG,simprocAttr,df,ae,Tryz.f68,cZ,di,ae,Tryz.f69,dn,dw,ae,Tryz.f70,dA,RI,ay,e_h1,h2',e_h3,h4',h5',e_h6,h7',h8,h9,h11']
         refine J.Om (t:=x5.1.fB) hj3 ?_
         simp (disch:=first|exact Zd|fail) only[ZZ,bG,simprocAttr,df,ae,Tryz.f68,cZ,di,ae,Tryz.f69,dn,dw,ae,Tryz.f70,dA,RI,ay,e_h1,h2',e_h3,h4',h5',e_h6,h7',h8,h9,h11',zi,zF,LN,NN,NT]
        ·have h11':=decide_eq_false h11
         conv=>arg 1;simp (disch:=first|exact Zd|fail) only[ZZ,bG,simprocAttr,df,ae,Tryz.f68,cZ,di,ae,Tryz.f69,dn,dw,ae,Tryz.f70,dA,RI,ay,e_h1,h2',e_h3,h4',h5',e_h6,h7',h8,h9,h11']
         refine J.eq dS ?_
         conv=>arg 1;simp (disch:=first|exact Zd|fail) only[ZZ,bG,simprocAttr,df,ae,Tryz.f68,cZ,di,ae,Tryz.f69,dn,dw,ae,Tryz.f70,dA,RI,ay,e_h1,h2',e_h3,h4',h5',e_h6,h7',h8,h9,h11']
         unfold bC.W1
         refine J.loop (λ(s:(List Bool)×Int)=>([(0,.own (0,22,3) 0 x5.1.fB.length x5.1.fB.length),(1,.arr x1.fB.length (lm (bk) x1.fB)),(11,.arr x3.length (lm (ik .i64) x3)),(12,.v (.int .i64 (x3.length:Int))),(13,.v (.int .i64 s.2))],[((0,3,0),.bx true ([.v (.int .i64 x1.fType),.arr x1.fDims.length (lm (ik .i64) x1.fDims),.arr x1.fF.length (lm (ik .u32) x1.fF),.arr x1.fI.length (lm (ik .i64) x1.fI),.arr x1.fB.length (lm (bk) x1.fB)])),((0,6,0),.bx true ([.v (.int .i64 0),.v (.slice none 0 0),.v (.slice none 0 0),.v (.slice none 0 0),.v (.slice none 0 0)])),((0,22,0),.sl true true 1 x5.1.fDims.length (lm (ik .i64) x5.1.fDims)),((0,22,1),.sl true true 1 x7.length (lm (ik .u32) x7)),((0,22,2),.sl true true 1 x8.length (lm (ik .i64) x8)),((0,22,3),.sl true true 1 x5.1.fB.length (lm (bk) s.1)),((0,9,0),.bx true ([.v (.int .i64 x5.1.fType),.own (0,22,0) 0 x5.1.fDims.length x5.1.fDims.length,.own (0,22,1) 0 x7.length x7.length,.own (0,22,2) 0 x8.length x8.length,.own (0,22,3) 0 x5.1.fB.length x5.1.fB.length]))])) (λnext s=>bC.L1 fu x1 x3 x5 x7 x8 (λx12 x13=>next (x12,x13)) s.1 s.2) (s0:=(x5.1.fB,0)) ?_ ?_ ?_
         ·exact Ze
         ·exact Zh
         rintro next k1 hn1 ⟨x12,x13⟩
         let nx1:(List Bool)->Int->Option (T_Tensor×Int):=(λx12 x13=>next (x12,x13))
         show J _ (bC.L1 fu x1 x3 x5 x7 x8 nx1 x12 x13) _
         unfold bC.L1
         conv=>arg 1;simp (disch:=first|exact Zd|fail) only[ZZ,bG,simprocAttr,df,ae,Tryz.f68,cZ,di,ae,Tryz.f69,dn,dw,ae,Tryz.f70,dA,RI,ay,e_h1,h2',e_h3,h4',h5',e_h6,h7',h8,h9,h11']
         refine J.eq dZ ?_
         conv=>arg 1;simp (disch:=first|exact Zd|fail) only[ZZ,bG,simprocAttr,df,ae,Tryz.f68,cZ,di,ae,Tryz.f69,dn,dw,ae,Tryz.f70,dA,RI,ay,e_h1,h2',e_h3,h4',h5',e_h6,h7',h8,h9,h11']
         refine J.ite (λh12=> ?_) (λh12=> ?_)
         ·have h12':=decide_eq_true h12
          have h12'':decide ((x3.length:Int)<=x13)=false:=decide_eq_false (by omega)
          conv=>arg 1;simp (disch:=first|exact Zd|fail) only[ZZ,bG,simprocAttr,df,ae,Tryz.f68,cZ,di,ae,Tryz.f69,dn,dw,ae,Tryz.f70,dA,RI,ay,e_h1,h2',e_h3,h4',h5',e_h6,h7',h8,h9,h11',h12'',h12']
          refine J.eq dS ?_
          refine J.eq dZ ?_
          refine J.at λx16 h13 h14 h15=> ?_
          conv=>arg 1;simp (disch:=first|exact Zd|fail) only[ZZ,bG,simprocAttr,df,ae,Tryz.f68,cZ,di,ae,Tryz.f69,dn,dw,ae,Tryz.f70,dA,RI,ay,e_h1,h2',e_h3,h4',h5',e_h6,h7',h8,h9,h11',h12'',h12',fV h15]
          refine J.ite (λh16=> ?_) (λh16=> ?_)
          ·have h16':=decide_eq_true h16
           have h16'':decide (x16<0)=false:=decide_eq_false (by omega)
           refine J.at λx17 h17 h18 h19=> ?_
           refine J.chk λh20=> ?_
           refine J.chk λh21=> ?_
           conv=>arg 1;simp (disch:=first|exact Zd|fail) only[ZZ,bG,simprocAttr,df,ae,Tryz.f68,cZ,di,ae,Tryz.f69,dn,dw,ae,Tryz.f70,dA,RI,ay,e_h1,h2',e_h3,h4',h5',e_h6,h7',h8,h9,h11',h12'',h12',fV h15,h16'',h16',VA h19]
           refine J.eq dS ?_
           conv=>arg 1;simp (disch:=first|exact Zd|fail) only[ZZ,bG,simprocAttr,df,ae,Tryz.f68,cZ,di,ae,Tryz.f69,dn,dw,ae,Tryz.f70,dA,RI,ay,e_h1,h2',e_h3,h4',h5',e_h6,h7',h8,h9,h11',h12'',h12',fV h15,h16'',h16',VA h19]
           refine J.next (s:=(x12.set x13.toNat x17,wk .i64 (x13+1))) hn1 ?_ ?_
           ·exact Ze
           ·exact Zh
          ·have h16':=decide_eq_false h16
           have h16'':decide (x16<0)=true:=decide_eq_true (by omega)
           conv=>arg 1;simp (disch:=first|exact Zd|fail) only[ZZ,bG,simprocAttr,df,ae,Tryz.f68,cZ,di,ae,Tryz.f69,dn,dw,ae,Tryz.f70,dA,RI,ay,e_h1,h2',e_h3,h4',h5',e_h6,h7',h8,h9,h11',h12'',h12',fV h15,h16'',h16']
           refine J.eq dS ?_
           conv=>arg 1;simp (disch:=first|exact Zd|fail) only[ZZ,bG,simprocAttr,df,ae,Tryz.f68,cZ,di,ae,Tryz.f69,dn,dw,ae,Tryz.f70,dA,RI,ay,e_h1,h2',e_h3,h4',h5',e_h6,h7',h8,h9,h11',h12'',h12',fV h15,h16'',h16']
           refine J.next (s:=(x12,wk .i64 (x13+1))) hn1 ?_ ?_
           ·exact Ze
           ·exact Zh
         ·have h12':=decide_eq_false h12
          have h12'':decide ((x3.length:Int)<=x13)=true:=decide_eq_true (by omega)
          conv=>arg 1;simp (disch:=first|exact Zd|fail) only[ZZ,bG,simprocAttr,df,ae,Tryz.f68,cZ,di,ae,Tryz.f69,dn,dw,ae,Tryz.f70,dA,RI,ay,e_h1,h2',e_h3,h4',h5',e_h6,h7',h8,h9,h11',h12'',h12']
          refine J.UX (t:=x12) hj3 ?_
          simp (disch:=first|exact Zd|fail) only[ZZ,bG,simprocAttr,df,ae,Tryz.f68,cZ,di,ae,Tryz.f69,dn,dw,ae,Tryz.f70,dA,RI,ay,e_h1,h2',e_h3,h4',h5',e_h6,h7',h8,h9,h11',h12'',h12',zi,zF,LN,NN,NT]
      ·refine J.hd aay ?_
       refine J.eq di ?_
       conv=>arg 1;simp (disch:=first|exact Zd|fail) only[ZZ,bG,simprocAttr,df,ae,Tryz.f68,cZ,di,ae,Tryz.f69,dn,dw,ae,Tryz.f70,dA,RI,ay,e_h1,h2',e_h3,h4',h5',e_h6,h7',h8]
       refine J.eq dZ ?_
       conv=>arg 1;simp (disch:=first|exact Zd|fail) only[ZZ,bG,simprocAttr,df,ae,Tryz.f68,cZ,di,ae,Tryz.f69,dn,dw,ae,Tryz.f70,dA,RI,ay,e_h1,h2',e_h3,h4',h5',e_h6,h7',h8]
       refine J.ite (λh22=> ?_) (λh22=> ?_)
       ·have h22':=decide_eq_true h22
        conv=>arg 1;simp (disch:=first|exact Zd|fail) only[ZZ,bG,simprocAttr,df,ae,Tryz.f68,cZ,di,ae,Tryz.f69,dn,dw,ae,Tryz.f70,dA,RI,ay,e_h1,h2',e_h3,h4',h5',e_h6,h7',h8,h22']
        refine J.Om (t:=x5.1.fI) hj2 ?_
        simp (disch:=first|exact Zd|fail) only[ZZ,bG,simprocAttr,df,ae,Tryz.f68,cZ,di,ae,Tryz.f69,dn,dw,ae,Tryz.f70,dA,RI,ay,e_h1,h2',e_h3,h4',h5',e_h6,h7',h8,h22',zi,zF,LN,NN,NT]
       ·have h22':=decide_eq_false h22
        conv=>arg 1;simp (disch:=first|exact Zd|fail) only[ZZ,bG,simprocAttr,df,ae,Tryz.f68,cZ,di,ae,Tryz.f69,dn,dw,ae,Tryz.f70,dA,RI,ay,e_h1,h2',e_h3,h4',h5',e_h6,h7',h8,h22']
        refine J.eq dS ?_
        conv=>arg 1;simp (disch:=first|exact Zd|fail) only[ZZ,bG,simprocAttr,df,ae,Tryz.f68,cZ,di,ae,Tryz.f69,dn,dw,ae,Tryz.f70,dA,RI,ay,e_h1,h2',e_h3,h4',h5',e_h6,h7',h8,h22']
        unfold bC.W2
        refine J.loop (λ(s:(List Int)×Int)=>([(0,.own (0,22,2) 0 x5.1.fI.length x5.1.fI.length),(1,.arr x1.fI.length (lm (ik .i64) x1.fI)),(11,.arr x3.length (lm (ik .i64) x3)),(12,.v (.int .i64 (x3.length:Int))),(13,.v (.int .i64 s.2))],[((0,3,0),.bx true ([.v (.int .i64 x1.fType),.arr x1.fDims.length (lm (ik .i64) x1.fDims),.arr x1.fF.length (lm (ik .u32) x1.fF),.arr x1.fI.length (lm (ik .i64) x1.fI),.arr x1.fB.length (lm (bk) x1.fB)])),((0,6,0),.bx true ([.v (.int .i64 0),.v (.slice none 0 0),.v (.slice none 0 0),.v (.slice none 0 0),.v (.slice none 0 0)])),((0,22,0),.sl true true 1 x5.1.fDims.length (lm (ik .i64) x5.1.fDims)),((0,22,1),.sl true true 1 x7.length (lm (ik .u32) x7)),((0,22,2),.sl true true 1 x5.1.fI.length (lm (ik .i64) s.1)),((0,22,3),.sl true true 1 x5.1.fB.length (lm (bk) x5.1.fB)),((0,9,0),.bx true ([.v (.int .i64 x5.1.fType),.own (0,22,0) 0 x5.1.fDims.length x5.1.fDims.length,.own (0,22,1) 0 x7.length x7.length,.own (0,22,2) 0 x5.1.fI.length x5.1.fI.length,.own (0,22,3) 0 x5.1.fB.length x5.1.fB.length]))])) (λnext s=>bC.L2 fu x1 x3 x5 x7 (λx20 x21=>next (x20,x21)) s.1 s.2) (s0:=(x5.1.fI,0)) ?_ ?_ ?_
        ·exact Ze
        ·exact Zh
        rintro next k2 hn2 ⟨x20,x21⟩
        let nx2:(List Int)->Int->Option (T_Tensor×Int):=(λx20 x21=>next (x20,x21))
        show J _ (bC.L2 fu x1 x3 x5 x7 nx2 x20 x21) _
        unfold bC.L2
        conv=>arg 1;simp (disch:=first|exact Zd|fail) only[ZZ,bG,simprocAttr,df,ae,Tryz.f68,cZ,di,ae,Tryz.f69,dn,dw,ae,Tryz.f70,dA,RI,ay,e_h1,h2',e_h3,h4',h5',e_h6,h7',h8,h22']
        refine J.eq dZ ?_
        conv=>arg 1;simp (disch:=first|exact Zd|fail) only[ZZ,bG,simprocAttr,df,ae,Tryz.f68,cZ,di,ae,Tryz.f69,dn,dw,ae,Tryz.f70,dA,RI,ay,e_h1,h2',e_h3,h4',h5',e_h6,h7',h8,h22']
        refine J.ite (λh23=> ?_) (λh23=> ?_)
        ·have h23':=decide_eq_true h23
         have h23'':decide ((x3.length:Int)<=x21)=false:=decide_eq_false (by omega)
         conv=>arg 1;simp (disch:=first|exact Zd|fail) only[ZZ,bG,simprocAttr,df,ae,Tryz.f68,cZ,di,ae,Tryz.f69,dn,dw,ae,Tryz.f70,dA,RI,ay,e_h1,h2',e_h3,h4',h5',e_h6,h7',h8,h22',h23'',h23']
         refine J.eq dS ?_
         refine J.eq dZ ?_
         refine J.at λx24 h24 h25 h26=> ?_
         conv=>arg 1;simp (disch:=first|exact Zd|fail) only[ZZ,bG,simprocAttr,df,ae,Tryz.f68,cZ,di,ae,Tryz.f69,dn,dw,ae,Tryz.f70,dA,RI,ay,e_h1,h2',e_h3,h4',h5',e_h6,h7',h8,h22',h23'',h23',fV h26]
         refine J.ite (λh27=> ?_) (λh27=> ?_)
         ·have h27':=decide_eq_true h27
          have h27'':decide (x24<0)=false:=decide_eq_false (by omega)
          refine J.at λx25 h28 h29 h30=> ?_
          refine J.chk λh31=> ?_
          refine J.chk λh32=> ?_
          conv=>arg 1;simp (disch:=first|exact Zd|fail) only[ZZ,bG,simprocAttr,df,ae,Tryz.f68,cZ,di,ae,Tryz.f69,dn,dw,ae,Tryz.f70,dA,RI,ay,e_h1,h2',e_h3,h4',h5',e_h6,h7',h8,h22',h23'',h23',fV h26,h27'',h27',fV h30]
          refine J.eq dS ?_
          conv=>arg 1;simp (disch:=first|exact Zd|fail) only[ZZ,bG,simprocAttr,df,ae,Tryz.f68,cZ,di,ae,Tryz.f69,dn,dw,ae,Tryz.f70,dA,RI,ay,e_h1,h2',e_h3,h4',h5',e_h6,h7',h8,h22',h23'',h23',fV h26,h27'',h27',fV h30]
          refine J.next (s:=(x20.set x21.toNat x25,wk .i64 (x21+1))) hn2 ?_ ?_
          ·exact Ze
          ·exact Zh
         ·have h27':=decide_eq_false h27
          have h27'':decide (x24<0)=true:=decide_eq_true (by omega)
          conv=>arg 1;simp (disch:=first|exact Zd|fail) only[ZZ,bG,simprocAttr,df,ae,Tryz.f68,cZ,di,ae,Tryz.f69,dn,dw,ae,Tryz.f70,dA,RI,ay,e_h1,h2',e_h3,h4',h5',e_h6,h7',h8,h22',h23'',h23',fV h26,h27'',h27']
          refine J.eq dS ?_
          conv=>arg 1;simp (disch:=first|exact Zd|fail) only[ZZ,bG,simprocAttr,df,ae,Tryz.f68,cZ,di,ae,Tryz.f69,dn,dw,ae,Tryz.f70,dA,RI,ay,e_h1,h2',e_h3,h4',h5',e_h6,h7',h8,h22',h23'',h23',fV h26,h27'',h27']
          refine J.next (s:=(x20,wk .i64 (x21+1))) hn2 ?_ ?_
          ·exact Ze
          ·exact Zh
        ·have h23':=decide_eq_false h23
         have h23'':decide ((x3.length:Int)<=x21)=true:=decide_eq_true (by omega)
         conv=>arg 1;simp (disch:=first|exact Zd|fail) only[ZZ,bG,simprocAttr,df,ae,Tryz.f68,cZ,di,ae,Tryz.f69,dn,dw,ae,Tryz.f70,dA,RI,ay,e_h1,h2',e_h3,h4',h5',e_h6,h7',h8,h22',h23'',h23']
         refine J.UX (t:=x20) hj2 ?_
         simp (disch:=first|exact Zd|fail) only[ZZ,bG,simprocAttr,df,ae,Tryz.f68,cZ,di,ae,Tryz.f69,dn,dw,ae,Tryz.f70,dA,RI,ay,e_h1,h2',e_h3,h4',h5',e_h6,h7',h8,h22',h23'',h23',zi,zF,LN,NN,NT]
     ·refine J.hd aay ?_
      refine J.eq df ?_
      conv=>arg 1;simp (disch:=first|exact Zd|fail) only[ZZ,bG,simprocAttr,df,ae,Tryz.f68,cZ,di,ae,Tryz.f69,dn,dw,ae,Tryz.f70,dA,RI,ay,e_h1,h2',e_h3,h4',h5',e_h6,h7']
      refine J.eq dZ ?_
      conv=>arg 1;simp (disch:=first|exact Zd|fail) only[ZZ,bG,simprocAttr,df,ae,Tryz.f68,cZ,di,ae,Tryz.f69,dn,dw,ae,Tryz.f70,dA,RI,ay,e_h1,h2',e_h3,h4',h5',e_h6,h7']
      refine J.ite (λh33=> ?_) (λh33=> ?_)
      ·have h33':=decide_eq_true h33
       conv=>arg 1;simp (disch:=first|exact Zd|fail) only[ZZ,bG,simprocAttr,df,ae,Tryz.f68,cZ,di,ae,Tryz.f69,dn,dw,ae,Tryz.f70,dA,RI,ay,e_h1,h2',e_h3,h4',h5',e_h6,h7',h33']
       refine J.Om (t:=x5.1.fF) hj1 ?_
       simp (disch:=first|exact Zd|fail) only[ZZ,bG,simprocAttr,df,ae,Tryz.f68,cZ,di,ae,Tryz.f69,dn,dw,ae,Tryz.f70,dA,RI,ay,e_h1,h2',e_h3,h4',h5',e_h6,h7',h33',zi,zF,LN,NN,NT]
      ·have h33':=decide_eq_false h33
       conv=>arg 1;simp (disch:=first|exact Zd|fail) only[ZZ,bG,simprocAttr,df,ae,Tryz.f68,cZ,di,ae,Tryz.f69,dn,dw,ae,Tryz.f70,dA,RI,ay,e_h1,h2',e_h3,h4',h5',e_h6,h7',h33']
       refine J.eq dS ?_
       conv=>arg 1;simp (disch:=first|exact Zd|fail) only[ZZ,bG,simprocAttr,df,ae,Tryz.f68,cZ,di,ae,Tryz.f69,dn,dw,ae,Tryz.f70,dA,RI,ay,e_h1,h2',e_h3,h4',h5',e_h6,h7',h33']
       unfold bC.W3
       refine J.loop (λ(s:(List Int)×Int)=>([(0,.own (0,22,1) 0 x5.1.fF.length x5.1.fF.length),(1,.arr x1.fF.length (lm (ik .u32) x1.fF)),(11,.arr x3.length (lm (ik .i64) x3)),(12,.v (.int .i64 (x3.length:Int))),(13,.v (.int .i64 s.2))],[((0,3,0),.bx true ([.v (.int .i64 x1.fType),.arr x1.fDims.length (lm (ik .i64) x1.fDims),.arr x1.fF.length (lm (ik .u32) x1.fF),.arr x1.fI.length (lm (ik .i64) x1.fI),.arr x1.fB.length (lm (bk) x1.fB)])),((0,6,0),.bx true ([.v (.int .i64 0),.v (.slice none 0 0),.v (.slice none 0 0),.v (.slice none 0 0),.v (.slice none 0 0)])),((0,22,0),.sl true true 1 x5.1.fDims.length (lm (ik .i64) x5.1.fDims)),((0,22,1),.sl true true 1 x5.1.fF.length (lm (ik .u32) s.1)),((0,22,2),.sl true true 1 x5.1.fI.length (lm (ik .i64) x5.1.fI)),((0,22,3),.sl true true 1 x5.1.fB.length (lm (bk) x5.1.fB)),((0,9,0),.bx true ([.v (.int .i64 x5.1.fType),.own (0,22,0) 0 x5.1.fDims.length x5.1.fDims.length,.own (0,22,1) 0 x5.1.fF.length x5.1.fF.length,.own (0,22,2) 0 x5.1.fI.length x5.1.fI.length,.own (0,22,3) 0 x5.1.fB.length x5.1.fB.length]))])) (λnext s=>bC.L3 fu x1 x3 x5 (λx28 x29=>next (x28,x29)) s.1 s.2) (s0:=(x5.1.fF,0)) ?_ ?_ ?_
       ·exact Ze
       ·exact Zh
       rintro next k3 hn3 ⟨x28,x29⟩
       let nx3:(List Int)->Int->Option (T_Tensor×Int):=(λx28 x29=>next (x28,x29))
       show J _ (bC.L3 fu x1 x3 x5 nx3 x28 x29) _
       unfold bC.L3
       conv=>arg 1;simp (disch:=first|exact Zd|fail) only[ZZ,bG,simprocAttr,df,ae,Tryz.f68,cZ,di,ae,Tryz.f69,dn,dw,ae,Tryz.f70,dA,RI,ay,e_h1,h2',e_h3,h4',h5',e_h6,h7',h33']
       refine J.eq dZ ?_
       conv=>arg 1;simp (disch:=first|exact Zd|fail) only[ZZ,bG,simprocAttr,df,ae,Tryz.f68,cZ,di,ae,Tryz.f69,dn,dw,ae,Tryz.f70,dA,RI,ay,e_h1,h2',e_h3,h4',h5',e_h6,h7',h33']
       refine J.ite (λh34=> ?_) (λh34=> ?_)
       ·have h34':=decide_eq_true h34
        have h34'':decide ((x3.length:Int)<=x29)=false:=decide_eq_false (by omega)
        conv=>arg 1;simp (disch:=first|exact Zd|fail) only[ZZ,bG,simprocAttr,df,ae,Tryz.f68,cZ,di,ae,Tryz.f69,dn,dw,ae,Tryz.f70,dA,RI,ay,e_h1,h2',e_h3,h4',h5',e_h6,h7',h33',h34'',h34']
        refine J.eq dS ?_
        refine J.eq dZ ?_
        refine J.at λx32 h35 h36 h37=> ?_
        conv=>arg 1;simp (disch:=first|exact Zd|fail) only[ZZ,bG,simprocAttr,df,ae,Tryz.f68,cZ,di,ae,Tryz.f69,dn,dw,ae,Tryz.f70,dA,RI,ay,e_h1,h2',e_h3,h4',h5',e_h6,h7',h33',h34'',h34',fV h37]
        refine J.ite (λh38=> ?_) (λh38=> ?_)
        ·have h38':=decide_eq_true h38
         have h38'':decide (x32<0)=false:=decide_eq_false (by omega)
         refine J.at λx33 h39 h40 h41=> ?_
         refine J.chk λh42=> ?_
         refine J.chk λh43=> ?_
         conv=>arg 1;simp (disch:=first|exact Zd|fail) only[ZZ,bG,simprocAttr,df,ae,Tryz.f68,cZ,di,ae,Tryz.f69,dn,dw,ae,Tryz.f70,dA,RI,ay,e_h1,h2',e_h3,h4',h5',e_h6,h7',h33',h34'',h34',fV h37,h38'',h38',fV h41]
         refine J.eq dS ?_
         conv=>arg 1;simp (disch:=first|exact Zd|fail) only[ZZ,bG,simprocAttr,df,ae,Tryz.f68,cZ,di,ae,Tryz.f69,dn,dw,ae,Tryz.f70,dA,RI,ay,e_h1,h2',e_h3,h4',h5',e_h6,h7',h33',h34'',h34',fV h37,h38'',h38',fV h41]
         refine J.next (s:=(x28.set x29.toNat x33,wk .i64 (x29+1))) hn3 ?_ ?_
         ·exact Ze
         ·exact Zh
        ·have h38':=decide_eq_false h38
         have h38'':decide (x32<0)=true:=decide_eq_true (by omega)
         conv=>arg 1;simp (disch:=first|exact Zd|fail) only[ZZ,bG,simprocAttr,df,ae,Tryz.f68,cZ,di,ae,Tryz.f69,dn,dw,ae,Tryz.f70,dA,RI,ay,e_h1,h2',e_h3,h4',h5',e_h6,h7',h33',h34'',h34',fV h37,h38'',h38']
         refine J.eq dS ?_
         conv=>arg 1;simp (disch:=first|exact Zd|fail) only[ZZ,bG,simprocAttr,df,ae,Tryz.f68,cZ,di,ae,Tryz.f69,dn,dw,ae,Tryz.f70,dA,RI,ay,e_h1,h2',e_h3,h4',h5',e_h6,h7',h33',h34'',h34',fV h37,h38'',h38']
         refine J.next (s:=(x28,wk .i64 (x29+1))) hn3 ?_ ?_
         ·exact Ze
         ·exact Zh
       ·have h34':=decide_eq_false h34
        have h34'':decide ((x3.length:Int)<=x29)=true:=decide_eq_true (by omega)
        conv=>arg 1;simp (disch:=first|exact Zd|fail) only[ZZ,bG,simprocAttr,df,ae,Tryz.f68,cZ,di,ae,Tryz.f69,dn,dw,ae,Tryz.f70,dA,RI,ay,e_h1,h2',e_h3,h4',h5',e_h6,h7',h33',h34'',h34']
        refine J.UX (t:=x28) hj1 ?_
        simp (disch:=first|exact Zd|fail) only[ZZ,bG,simprocAttr,df,ae,Tryz.f68,cZ,di,ae,Tryz.f69,dn,dw,ae,Tryz.f70,dA,RI,ay,e_h1,h2',e_h3,h4',h5',e_h6,h7',h33',h34'',h34',zi,zF,LN,NN,NT]
   ·have h5':=decide_eq_false h5
    refine J.some ?_
    simp (maxSteps:=20000000) (disch:=first|exact Zd|fail) only[ZZ,bG,simprocAttr,df,ae,Tryz.f68,cZ,di,ae,Tryz.f69,dn,dw,ae,Tryz.f70,dA,RI,iO,ay,e_h1,h2',e_h3,h4',h5',FN]
  ·have h4':=decide_eq_false h4
   refine J.some ?_
   simp (maxSteps:=20000000) (disch:=first|exact Zd|fail) only[ZZ,bG,simprocAttr,df,ae,Tryz.f68,cZ,di,ae,Tryz.f69,dn,dw,ae,Tryz.f70,dA,RI,iO,ay,e_h1,h2',e_h3,h4',FN]
 ·have h2':=decide_eq_false h2
  refine J.some ?_
  simp (maxSteps:=20000000) (disch:=first|exact Zd|fail) only[ZZ,bG,simprocAttr,df,ae,Tryz.f68,cZ,di,ae,Tryz.f69,dn,dw,ae,Tryz.f70,dA,RI,iO,ay,e_h1,h2',FN]
noncomputable def t34(fu:Nat):af:=gm 50 (gV (λ(t:T_Tensor)=>([.agg (bV t)]:List AV)) (λt=>jP fu t) e50) (gm 53 (gV (λ(t:Int×(List Int))=>([.v (.int .i64 t.1),.arr t.2.length (lm (ik .i64) t.2)]:List AV)) (λt=>qM fu t.1 t.2) e53) (gm 66 (gV (λ(t:(List Int)×Int)=>([.arr t.1.length (lm (ik .i64) t.1),.fn 67 [] [.aF [.v (.int .i64 t.2)] 0]]:List AV)) (λt=>oM fu t.1 (λy0=>ut fu y0 t.2)) Ff) (mY)))
theorem y5(fu:Nat):aJ prog (t34 fu):=jD (jD (jD (nJ) (jE (λt b h=>Yk fu t.1 (λy0=>ut fu y0 t.2) 67 [.aF [.v (.int .i64 t.2)] 0] (bf.aF bf.nil) (λy0 r h=>aqQ fu y0 t.2 r h) b h))) (jE (λt b h=>afC fu t.1 t.2 b h))) (jE (λt b h=>ajR fu t b h))
theorem ayI(fu:Nat)(x1:T_Tensor)(x2:List Int)(x3:List Int)(r)(h:bC fu x1 x2 x3=some r):aA prog 34 [.agg (bV x1),.arr x2.length (lm (ik .i64) x2),.arr x3.length (lm (ik .i64) x3)] (e34 r):=
  pJ mixed (cp:=t34 fu) (y5 fu) (iF mixed (y5 fu) (iF mixed (y5 fu) (iF mixed (y5 fu) aB i70 aB) i69 (iF mixed (y5 fu) aB i70 aB)) i68 (iF mixed (y5 fu) (iF mixed (y5 fu) aB i70 aB) i69 (iF mixed (y5 fu) aB i70 aB))) i34 (w34 _ fu x1 x2 x3 (λa0 r h=>jo (jv (a:=a0) (by intro a b h;first|(exact rfl)|(simp only[gB,IJ]at h;first|exact h|(simp_all [Prod.ext_iff]))) h)) (λa0 a1 r h=>xJ (by decide) (jo (jv (a:=(a0,a1)) (by intro a b h;first|(exact rfl)|(simp only[gB,IJ]at h;first|exact h|(simp_all [Prod.ext_iff]))) h))) (λa0 c1 r h=>xJ (by decide) (xJ (by decide) (jo (jv (a:=(a0,c1)) (by intro a b h;first|(exact rfl)|(simp only[gB,IJ]at h;first|exact h|(simp_all [Prod.ext_iff]))) h))))) h
end Go.Av
