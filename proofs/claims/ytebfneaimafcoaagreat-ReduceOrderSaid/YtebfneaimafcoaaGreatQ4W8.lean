/- The walks of the plain functions, part 3. Made by a program of mine. Conditions: none. -/
import Derived.Test.YtebfneaimafcoaaGreatQ4W4
import Derived.Test.YtebfneaimafcoaaGreatQ4W5
import Derived.Test.YtebfneaimafcoaaGreatQ4W6
import Derived.Test.YtebfneaimafcoaaGreatQ4W7
set_option linter.unusedVariables false
set_option linter.unusedSimpArgs false
set_option linter.defProp false
set_option maxRecDepth 20000
open Go Go.Proofs
namespace Go.Av
open Aw (d17 d22 d23 d24 d25 d26 d27 d38 d39 d40 d41 d42 d43 d44 d45 d54 d60 d62 d80 d81 d82 d83 d84 d85 d86 d87 d88 d89 d91 d92 d93 d94 d95 d100 d106 d107 d120 d148 d149 d150 d152 d153 d154 d155 d159 d160 d161 d162 d163 d164 d165 d166 d168 d184 d195 d196 d197)
open Aw (d185)
open Aw (d112)
open Aw (d111)
open Aw (d50)
open Aw (d33)
open Aw (d47)
open Aw (d13)
theorem w13(cp:CallP)(fu:Nat)(x1:Int)(x2:T_Setting)(x3:List T_Tensor)(H1:K22 fu cp)(H2:K23 fu cp)(H3:K24 fu cp)(H4:K26 fu cp)(H5:K25 fu cp)(H6:K27 fu cp)(H7:K108 fu cp)(H8:K54 fu cp)(H9:K109 fu cp)(H10:K49 fu cp)(H11:K126 fu cp)(H12:K65 fu cp)(H13:K133 fu cp)(H14:K127 fu cp)(H15:K135 fu cp)(H16:K130 fu cp)(H17:K137 fu cp)(H18:cp 63 [.v (.int .i64 65)]=some (.fn 9 [] [])∧cp 63 [.v (.int .i64 67)]=some (.fn 126 [] [])∧cp 63 [.v (.int .i64 68)]=some (.fn 127 [] [])∧cp 63 [.v (.int .i64 69)]=some (.fn 129 [] []))(H19:cp 64 [.v (.int .i64 65)]=some (.fn 130 [] [])∧cp 64 [.v (.int .i64 67)]=some (.fn 133 [] [])∧cp 64 [.v (.int .i64 68)]=some (.fn 135 [] [])∧cp 64 [.v (.int .i64 69)]=some (.fn 137 [] [])):J (go Tryz.prog (inlC [33,47]) cp (ciE Tryz.prog (inlC [33,47]) cp (ciE Tryz.prog (inlC [33,47]) cp (ciY 110 (cy110 fu) noI) fu 47 d47 ⟨b47,[.tmp 2],[74]⟩ (ciY 110 (cy110 fu) noI)) fu 33 d33 ⟨b33,[],[]⟩ (ciE Tryz.prog (inlC [33,47]) cp (ciY 110 (cy110 fu) noI) fu 47 d47 ⟨b47,[.tmp 2],[74]⟩ (ciY 110 (cy110 fu) noI))) 0 [] d13 fu (finS Tryz.prog [.cell 6 31,.tmp 7] [31,32]) (bodyOf Tryz.f13) (initE 0 [.v (.int .i64 x1),.agg (c_T_Setting x2),.arr x3.length (fm c_T_Tensor x3)]) [] []) (reduce_Do fu x1 x2 x3) e13:=by
 unfold reduce_Do
 exact J.spl (λc=>w13_67 cp fu x1 x2 x3 H1 H2 H3 H4 H5 H6 H7 H8 H9 H10 H11 H12 H13 H14 H15 H16 H17 H18 H19 c) (λ_=>J.spl (λc=>w13_68 cp fu x1 x2 x3 H1 H2 H3 H4 H5 H6 H7 H8 H9 H10 H11 H12 H13 H14 H15 H16 H17 H18 H19 c) (λ_=>J.spl (λc=>w13_65 cp fu x1 x2 x3 H1 H2 H3 H4 H5 H6 H7 H8 H9 H10 H11 H12 H13 H14 H15 H16 H17 H18 H19 c) (λ_=>J.chk λc=>w13_69 cp fu x1 x2 x3 H1 H2 H3 H4 H5 H6 H7 H8 H9 H10 H11 H12 H13 H14 H15 H16 H17 H18 H19 c)))
theorem ok13(fu:Nat)(x1:Int)(x2:T_Setting)(x3:List T_Tensor)(r)(h:reduce_Do fu x1 x2 x3=some r):PureOK Tryz.prog 13 [.v (.int .i64 x1),.agg (c_T_Setting x2),.arr x3.length (fm c_T_Tensor x3)] (e13 r):=pureST mixed [(C22 fu).ct,(C23 fu).ct,(C24 fu).ct,(C26 fu).ct,(C25 fu).ct,(C27 fu).ct,(C108 fu).ct,(C54 fu).ct,(C109 fu).ct,(C49 fu).ct,(C126 fu).ct,(C65 fu).ct,(C133 fu).ct,(C127 fu).ct,(C135 fu).ct,(C130 fu).ct,(C137 fu).ct,C63.ct,C64.ct] (ids:=[22,23,24,26,25,27,108,54,109,49,126,65,133,127,135,130,137,63,64]) rfl (by decide) i13 (C:=(inlC [33,47])) (ci:=λcp=>(ciE Tryz.prog (inlC [33,47]) cp (ciE Tryz.prog (inlC [33,47]) cp (ciY 110 (cy110 fu) noI) fu 47 d47 ⟨b47,[.tmp 2],[74]⟩ (ciY 110 (cy110 fu) noI)) fu 33 d33 ⟨b33,[],[]⟩ (ciE Tryz.prog (inlC [33,47]) cp (ciY 110 (cy110 fu) noI) fu 47 d47 ⟨b47,[.tmp 2],[74]⟩ (ciY 110 (cy110 fu) noI)))) (λcp ok=>(ciE_ok mixed ok (ciE_ok mixed ok (ciY_ok noI_ok (cy110_ok fu)) i47 (ciY_ok noI_ok (cy110_ok fu))) i33 (ciE_ok mixed ok (ciY_ok noI_ok (cy110_ok fu)) i47 (ciY_ok noI_ok (cy110_ok fu))))) (λcp H=>w13 cp fu x1 x2 x3 (u22 H.1) (u23 H.2.1) (u24 H.2.2.1) (u26 H.2.2.2.1) (u25 H.2.2.2.2.1) (u27 H.2.2.2.2.2.1) (u108 H.2.2.2.2.2.2.1) (u54 H.2.2.2.2.2.2.2.1) (u109 H.2.2.2.2.2.2.2.2.1) (u49 H.2.2.2.2.2.2.2.2.2.1) (u126 H.2.2.2.2.2.2.2.2.2.2.1) (u65 H.2.2.2.2.2.2.2.2.2.2.2.1) (u133 H.2.2.2.2.2.2.2.2.2.2.2.2.1) (u127 H.2.2.2.2.2.2.2.2.2.2.2.2.2.1) (u135 H.2.2.2.2.2.2.2.2.2.2.2.2.2.2.1) (u130 H.2.2.2.2.2.2.2.2.2.2.2.2.2.2.2.1) (u137 H.2.2.2.2.2.2.2.2.2.2.2.2.2.2.2.2.1) ⟨C63.at H.2.2.2.2.2.2.2.2.2.2.2.2.2.2.2.2.2.1 65 65 rfl,C63.at H.2.2.2.2.2.2.2.2.2.2.2.2.2.2.2.2.2.1 67 67 rfl,C63.at H.2.2.2.2.2.2.2.2.2.2.2.2.2.2.2.2.2.1 68 68 rfl,C63.at H.2.2.2.2.2.2.2.2.2.2.2.2.2.2.2.2.2.1 69 69 rfl⟩ ⟨C64.at H.2.2.2.2.2.2.2.2.2.2.2.2.2.2.2.2.2.2.1 65 65 rfl,C64.at H.2.2.2.2.2.2.2.2.2.2.2.2.2.2.2.2.2.2.1 67 67 rfl,C64.at H.2.2.2.2.2.2.2.2.2.2.2.2.2.2.2.2.2.2.1 68 68 rfl,C64.at H.2.2.2.2.2.2.2.2.2.2.2.2.2.2.2.2.2.2.1 69 69 rfl⟩) h
def d66:List (Nat×List Nat):=[(0,[5]),(0,[6,29]),(0,[9,10]),(0,[]),(0,[12]),(0,[]),(0,[13,14,15,16,17]),(0,[]),(0,[18]),(0,[]),(0,[20,21]),(0,[]),(0,[7,22,23]),(0,[]),(0,[1,24,25,26,27,28]),(0,[]),(0,[0]),(0,[]),(0,[30,31,32]),(0,[]),(0,[34]),(0,[]),(0,[35,36,37]),(0,[]),(0,[39]),(0,[]),(0,[40,41,42]),(0,[]),(0,[8,43])]
def d66_at:=by have h:=tabL d66.eq_1;simp only[AllAt,Nat.zero_add,Nat.reduceAdd]at h;exact h
theorem i66:finfo Tryz.prog 66 d66=some ⟨bodyOf Tryz.f66,[.cell 4 31,.tmp 5],[31,32]⟩:=finfo_at Tryz.func66 rfl (by kernel_rfl) (by kernel_rfl)
def e66:(T_Tensor×Int)->AV:=λr=> .tuple [.agg [.v (.int .i64 r.1.fType),.fresh 1 r.1.fDims.length (lm (ik .i64) r.1.fDims),.fresh 1 r.1.fF.length (lm (ik .u32) r.1.fF),.fresh 1 r.1.fI.length (lm (ik .i64) r.1.fI),.fresh 1 r.1.fB.length (lm (bk) r.1.fB)],.v (.int .i64 r.2)]
set_option maxHeartbeats 20000000 in
theorem w66(cp:CallP)(fu:Nat)(x1:Int)(x2:List Int)(H1:K20 fu cp)(H2:K21 fu cp):J (go Tryz.prog noC cp noI 0 [] d66 fu (fin Tryz.prog [.cell 4 31,.tmp 5] [31,32]) (bodyOf Tryz.f66) (initE 0 [.v (.int .i64 x1),.arr x2.length (lm (ik .i64) x2)]) [] []) (ref05_New fu x1 x2) e66:=by
 unfold ref05_New e66
 have da:=d66_at
 conv=>arg 1;simp only[bodyOf,Tryz.f66]
 have z0:=d66_at
 exact Wk
theorem ok66(fu:Nat)(x1:Int)(x2:List Int)(r)(h:ref05_New fu x1 x2=some r):PureOK Tryz.prog 66 [.v (.int .i64 x1),.arr x2.length (lm (ik .i64) x2)] (e66 r):=pureT mixed [(C20 fu).ct,(C21 fu).ct] (ids:=[20,21]) rfl (by decide) i66 (C:=noC) (ci:=λcp=>noI) (λcp ok=>noI_ok) (λcp H=>w66 cp fu x1 x2 (u20 H.1) (u21 H.2.1)) h
def d67:List (Nat×List Nat):=[(0,[0,2]),(0,[1,3,4,6,9]),(0,[8]),(0,[]),(9,[10,11,12,13,14,15,16,17,18]),(0,[]),(0,[20]),(0,[]),(9,[21,22,23,24,25,26,27,28,29]),(0,[]),(0,[31]),(0,[]),(9,[32,33,34,35,36,37,38,39,40])]
def d67_at:=by have h:=tabL d67.eq_1;simp only[AllAt,Nat.zero_add,Nat.reduceAdd]at h;exact h
noncomputable def b67:Code:=bodyOf Tryz.f67
theorem go_b67{C:Cfg}{cp:CallP}{ci:CallI}{lvl:Nat}{prot:List Id}{D:List (Nat×List Nat)}{n:Nat}{K:KK}{e:Env}{h:Heap}{fs:List Fr}:go Tryz.prog C cp ci lvl prot D n K b67 e h fs=go Tryz.prog C cp ci lvl prot D n K (bodyOf Tryz.f67) e h fs:=rfl
theorem i67:finfo Tryz.prog 67 d67=some ⟨b67,[],[]⟩:=finfo_at Tryz.func67 rfl (by kernel_rfl) (by kernel_rfl)
def d34:List (Nat×List Nat):=[(0,[0,7]),(0,[2,3,11,13,14]),(0,[15,16]),(0,[]),(0,[17]),(0,[]),(0,[19,20]),(0,[]),(0,[8,21,22,23,24,25,26,27]),(0,[]),(0,[28]),(0,[]),(0,[30,31]),(0,[]),(0,[1,10,12,32,33,34,35,36]),(0,[]),(0,[37,38,39,40,41,42,43,44,45,46,47]),(0,[]),(0,[48,49,50]),(0,[]),(0,[52]),(0,[]),(0,[]),(0,[]),(0,[53,54]),(0,[]),(0,[56,57]),(0,[]),(0,[58,59,60,61,62,63,64,65,66,67,68,69]),(0,[]),(0,[71]),(0,[]),(0,[72,73,74,75]),(0,[]),(7,[77,78,79,80,81,82,83,84]),(0,[]),(0,[9,85])]
def d34_at:=by have h:=tabL d34.eq_1;simp only[AllAt,Nat.zero_add,Nat.reduceAdd]at h;exact h
theorem i34:finfo Tryz.prog 34 d34=some ⟨bodyOf Tryz.f34,[.cell 6 31,.tmp 7],[31,32]⟩:=finfo_at Tryz.func34 rfl (by kernel_rfl) (by kernel_rfl)
def e34:(T_Tensor×Int)->AV:=λr=> .tuple [.agg [.v (.int .i64 r.1.fType),.fresh 1 r.1.fDims.length (lm (ik .i64) r.1.fDims),.fresh 1 r.1.fF.length (lm (ik .u32) r.1.fF),.fresh 1 r.1.fI.length (lm (ik .i64) r.1.fI),.fresh 1 r.1.fB.length (lm (bk) r.1.fB)],.v (.int .i64 r.2)]
set_option maxHeartbeats 20000000 in
theorem w34(cp:CallP)(fu:Nat)(x1:T_Tensor)(x2:List Int)(x3:List Int)(H11_0: ∀ (a0:T_Tensor) r,ref05_Check fu a0=some r→cp 11 [.agg (c_T_Tensor a0)]=some (.v (.int .i64 r)))(H66_0: ∀ (a0:Int) (a1:List Int) r,ref05_New fu a0 a1=some r→cp 66 [.v (.int .i64 a0),.arr a1.length (lm (ik .i64) a1)]=some (.tuple [.agg [.v (.int .i64 r.1.fType),.fresh 1 r.1.fDims.length (lm (ik .i64) r.1.fDims),.fresh 1 r.1.fF.length (lm (ik .u32) r.1.fF),.fresh 1 r.1.fI.length (lm (ik .i64) r.1.fI),.fresh 1 r.1.fB.length (lm (bk) r.1.fB)],.v (.int .i64 r.2)]))(H21_0: ∀ (a0:List Int) r,ref04_Size fu a0=some r→cp 21 [.arr a0.length (lm (ik .i64) a0)]=some (.tuple [.v (.int .i64 r.1),.v (.int .i64 r.2)])):J (go Tryz.prog (inlC [67]) cp (ciE Tryz.prog (inlC [67]) cp noI fu 67 d67 ⟨b67,[],[]⟩ noI) 0 [] d34 fu (fin Tryz.prog [.cell 6 31,.tmp 7] [31,32]) (bodyOf Tryz.f34) (initE 0 [.agg (c_T_Tensor x1),.arr x2.length (lm (ik .i64) x2),.arr x3.length (lm (ik .i64) x3)]) [] []) (ref05_Pick fu x1 x2 x3) e34:=by
 unfold ref05_Pick e34
 have da:=d34_at
 refine J.bind λx4 h1=> ?_
 have e_h1:=H11_0 _ _ h1
 try simp only[NN,NT,LN,simprocAttr,DT]at e_h1
 conv=>arg 1;simp (disch:=first|exact Zd|fail) only[bodyOf,Tryz.f34,ZZ,d34_at,simprocAttr,RI,RIk,initE,e_h1]
 refine J.eq go_seq ?_
 conv=>arg 1;simp (disch:=first|exact Zd|fail) only[ZZ,d34_at,simprocAttr,RI,RIk,initE,e_h1]
 refine J.ite (λh2=> ?_) (λh2=> ?_)
 ·have h2':=decide_eq_true h2
  conv=>arg 1;simp (disch:=first|exact Zd|fail) only[ZZ,d34_at,simprocAttr,RI,RIk,initE,e_h1,h2']
  refine J.eq ret_seq ?_
  refine J.bind λx5 h3=> ?_
  have e_h3:=H66_0 _ _ _ h3
  try simp only[NN,NT,LN,simprocAttr,DT]at e_h3
  conv=>arg 1;simp (disch:=first|exact Zd|fail) only[ZZ,d34_at,simprocAttr,RI,RIk,initE,e_h1,h2',e_h3]
  refine J.eq go_seq ?_
  conv=>arg 1;simp (disch:=first|exact Zd|fail) only[ZZ,d34_at,simprocAttr,RI,RIk,initE,e_h1,h2',e_h3]
  refine J.ite (λh4=> ?_) (λh4=> ?_)
  ·have h4':=decide_eq_true h4
   conv=>arg 1;simp (disch:=first|exact Zd|fail) only[ZZ,d34_at,simprocAttr,RI,RIk,initE,e_h1,h2',e_h3,h4']
   refine J.eq ret_seq ?_
   refine J.bind λx6 h5=> ?_
   have e_h5:=H21_0 _ _ h5
   try simp only[NN,NT,LN,simprocAttr,DT]at e_h5
   conv=>arg 1;simp (disch:=first|exact Zd|fail) only[ZZ,d34_at,simprocAttr,RI,RIk,initE,e_h1,h2',e_h3,h4',e_h5]
   refine J.eq go_seq ?_
   conv=>arg 1;simp (disch:=first|exact Zd|fail) only[ZZ,d34_at,simprocAttr,RI,RIk,initE,e_h1,h2',e_h3,h4',e_h5]
   refine J.ite (λh6=> ?_) (λh6=> ?_)
   ·have h6':=decide_eq_true h6
    conv=>arg 1;simp (disch:=first|exact Zd|fail) only[ZZ,d34_at,simprocAttr,RI,RIk,initE,e_h1,h2',e_h3,h4',e_h5,h6']
    refine J.eq ret_seq ?_
    refine J.eq go_seq ?_
    conv=>arg 1;simp (disch:=first|exact Zd|fail) only[ZZ,d34_at,simprocAttr,RI,RIk,initE,e_h1,h2',e_h3,h4',e_h5,h6']
    unfold ref05_Pick.W1
    refine J.loop (λ(s:(List Int)×(List Int)×(List Bool)×Int)=>([(2,.arr x3.length (lm (ik .i64) x3)),(3,.ptr (0,3,0) 0 0),(6,.ptr (0,6,0) 0 0),(9,.ptr (0,9,0) 0 0),(11,.v (.int .i64 x6.1)),(13,.v (.int .i64 (wk .i64 ((wk .i64 ((x1.fF.length:Int)+(x1.fI.length:Int)))+(x1.fB.length:Int))))),(14,.v (.int .i64 s.2.2.2))],[((0,3,0),.bx true ([.v (.int .i64 x1.fType),.arr x1.fDims.length (lm (ik .i64) x1.fDims),.arr x1.fF.length (lm (ik .u32) x1.fF),.arr x1.fI.length (lm (ik .i64) x1.fI),.arr x1.fB.length (lm (bk) x1.fB)])),((0,6,0),.bx true ([.v (.int .i64 0),.v (.slice none 0 0),.v (.slice none 0 0),.v (.slice none 0 0),.v (.slice none 0 0)])),((0,25,0),.sl true true 1 x5.1.fDims.length (lm (ik .i64) x5.1.fDims)),((0,25,1),.sl true true 1 s.1.length (lm (ik .u32) s.1)),((0,25,2),.sl true true 1 s.2.1.length (lm (ik .i64) s.2.1)),((0,25,3),.sl true true 1 s.2.2.1.length (lm (bk) s.2.2.1)),((0,9,0),.bx true ([.v (.int .i64 x5.1.fType),.own (0,25,0) 0 x5.1.fDims.length x5.1.fDims.length,.own (0,25,1) 0 s.1.length s.1.length,.own (0,25,2) 0 s.2.1.length s.2.1.length,.own (0,25,3) 0 s.2.2.1.length s.2.2.1.length]))])) (λnext s=>ref05_Pick.L1 fu x1 x3 x5 x6 (λx15 x16 x17 x18=>next (x15,x16,x17,x18)) s.1 s.2.1 s.2.2.1 s.2.2.2) (s0:=(x5.1.fF,x5.1.fI,x5.1.fB,0)) ?_ ?_ ?_
    ·exact Ze
    ·exact Zh
    rintro next k1 hn1 ⟨x15,x16,x17,x18⟩
    let nx1:(List Int)->(List Int)->(List Bool)->Int->Option (T_Tensor×Int):=(λx15 x16 x17 x18=>next (x15,x16,x17,x18))
    show J _ (ref05_Pick.L1 fu x1 x3 x5 x6 nx1 x15 x16 x17 x18) _
    unfold ref05_Pick.L1
    refine J.eq go_seq ?_
    conv=>arg 1;simp (disch:=first|exact Zd|fail) only[ZZ,d34_at,simprocAttr,go_b67,bodyOf,Tryz.f67,d67_at,RI,RIk,initE,e_h1,h2',e_h3,h4',e_h5,h6']
    refine J.ite (λh7=> ?_) (λh7=> ?_)
    ·have h7':=decide_eq_true h7
     have h7'':decide (x6.1<=x18)=false:=decide_eq_false (by omega)
     conv=>arg 1;simp (disch:=first|exact Zd|fail) only[ZZ,d34_at,simprocAttr,go_b67,bodyOf,Tryz.f67,d67_at,RI,RIk,initE,e_h1,h2',e_h3,h4',e_h5,h6',h7'',h7']
     refine J.eq ret_seq ?_
     refine J.eq go_seq ?_
     conv=>arg 1;simp (disch:=first|exact Zd|fail) only[ZZ,d34_at,simprocAttr,go_b67,bodyOf,Tryz.f67,d67_at,RI,RIk,initE,e_h1,h2',e_h3,h4',e_h5,h6',h7'',h7']
     refine J.joinS (λ(t:Unit)=>([(2,.arr x3.length (lm (ik .i64) x3)),(3,.ptr (0,3,0) 0 0),(6,.ptr (0,6,0) 0 0),(9,.ptr (0,9,0) 0 0),(11,.v (.int .i64 x6.1)),(13,.v (.int .i64 (wk .i64 ((wk .i64 ((x1.fF.length:Int)+(x1.fI.length:Int)))+(x1.fB.length:Int))))),(14,.v (.int .i64 x18))],[((0,3,0),.bx true ([.v (.int .i64 x1.fType),.arr x1.fDims.length (lm (ik .i64) x1.fDims),.arr x1.fF.length (lm (ik .u32) x1.fF),.arr x1.fI.length (lm (ik .i64) x1.fI),.arr x1.fB.length (lm (bk) x1.fB)])),((0,6,0),.bx true ([.v (.int .i64 0),.v (.slice none 0 0),.v (.slice none 0 0),.v (.slice none 0 0),.v (.slice none 0 0)])),((0,25,0),.sl true true 1 x5.1.fDims.length (lm (ik .i64) x5.1.fDims)),((0,25,1),.sl true true 1 x15.length (lm (ik .u32) x15)),((0,25,2),.sl true true 1 x16.length (lm (ik .i64) x16)),((0,25,3),.sl true true 1 x17.length (lm (bk) x17)),((0,9,0),.bx true ([.v (.int .i64 x5.1.fType),.own (0,25,0) 0 x5.1.fDims.length x5.1.fDims.length,.own (0,25,1) 0 x15.length x15.length,.own (0,25,2) 0 x16.length x16.length,.own (0,25,3) 0 x17.length x17.length]))])) (λt=>ref05_Pick.k1 fu nx1 x1 x3 x5 x15 x16 x17 x18) ?_ (λhj1=> ?_)
     ·rintro⟨⟩
      show J _ (ref05_Pick.k1 fu nx1 x1 x3 x5 x15 x16 x17 x18) _
      unfold ref05_Pick.k1
      refine J.at λx27 h8 h9 h10=> ?_
      conv=>arg 1;simp (disch:=first|exact Zd|fail) only[ZZ,d34_at,simprocAttr,go_b67,bodyOf,Tryz.f67,d67_at,RI,RIk,initE,e_h1,h2',e_h3,h4',e_h5,h6',h7'',h7',lm_ik h10]
      refine J.ite (λh11=> ?_) (λh11=> ?_)
      ·have h11':=decide_eq_true h11
       have h11'':decide (x27<0)=false:=decide_eq_false (by omega)
       conv=>arg 1;simp (disch:=first|exact Zd|fail) only[ZZ,d34_at,simprocAttr,bodyOf,Tryz.f67,d67_at,RI,RIk,initE,e_h1,h2',e_h3,h4',e_h5,h6',h7'',h7',lm_ik h10,h11'',h11']
       refine J.callK (λ(t:(List Int)×(List Int)×(List Bool))=>(.tuple [],[((0,3,0),.bx true ([.v (.int .i64 x1.fType),.arr x1.fDims.length (lm (ik .i64) x1.fDims),.arr x1.fF.length (lm (ik .u32) x1.fF),.arr x1.fI.length (lm (ik .i64) x1.fI),.arr x1.fB.length (lm (bk) x1.fB)])),((0,6,0),.bx true ([.v (.int .i64 0),.v (.slice none 0 0),.v (.slice none 0 0),.v (.slice none 0 0),.v (.slice none 0 0)])),((0,25,0),.sl true true 1 x5.1.fDims.length (lm (ik .i64) x5.1.fDims)),((0,25,1),.sl true true 1 x15.length (lm (ik .u32) t.1)),((0,25,2),.sl true true 1 x16.length (lm (ik .i64) t.2.1)),((0,25,3),.sl true true 1 x17.length (lm (bk) t.2.2)),((0,9,0),.bx true ([.v (.int .i64 x5.1.fType),.own (0,25,0) 0 x5.1.fDims.length x5.1.fDims.length,.own (0,25,1) 0 x15.length x15.length,.own (0,25,2) 0 x16.length x16.length,.own (0,25,3) 0 x17.length x17.length]))])) (λt=>ref05_Pick.c2 fu nx1 x15 x16 x17 x18 t.1 t.2.1 t.2.2) ?_ (λhj2=> ?_)
       ·rintro⟨x28,x29,x30⟩
        show J _ (ref05_Pick.c2 fu nx1 x15 x16 x17 x18 x28 x29 x30) _
        unfold ref05_Pick.c2
        refine J.chk λh12=> ?_
        refine J.chk λh13=> ?_
        refine J.chk λh14=> ?_
        conv=>arg 1;simp (disch:=first|exact Zd|fail) only[ZZ,d34_at,simprocAttr,go_b67,bodyOf,Tryz.f67,d67_at,RI,RIk,initE,e_h1,h2',e_h3,h4',e_h5,h6',h7'',h7',lm_ik h10,h11'',h11',h12,h13,h14]
        refine J.eq ret_seq ?_
        conv=>arg 1;simp (disch:=first|exact Zd|fail) only[ZZ,d34_at,simprocAttr,go_b67,bodyOf,Tryz.f67,d67_at,RI,RIk,initE,e_h1,h2',e_h3,h4',e_h5,h6',h7'',h7',lm_ik h10,h11'',h11',h12,h13,h14]
        refine J.next (s:=(x28,x29,x30,wk .i64 (x18+1))) hn1 ?_ ?_
        ·exact Ze
        ·exact Zh
       ·refine J.hd jc_at ?_
        refine J.eq go_b67 ?_
        conv=>arg 1;simp (disch:=first|exact Zd|fail) only[ZZ,d34_at,simprocAttr,go_b67,bodyOf,Tryz.f67,d67_at,RI,initE,e_h1,h2',e_h3,h4',e_h5,h6',h7'',h7',lm_ik h10,h11'',h11']
        refine J.ite (λh15=> ?_) (λh15=> ?_)
        ·have h15':=decide_eq_true h15
         refine J.at λx31 h16 h17 h18=> ?_
         refine J.chk λh19=> ?_
         conv=>arg 1;simp (disch:=first|exact Zd|fail) only[ZZ,d34_at,simprocAttr,go_b67,bodyOf,Tryz.f67,d67_at,RI,initE,e_h1,h2',e_h3,h4',e_h5,h6',h7'',h7',lm_ik h10,h11'',h11',h15',lm_ik h18]
         refine J.knormal (t:=(x15.set x18.toNat x31,x16,x17)) hj2 ?_
         simp (disch:=first|exact Zd|fail) only[ZZ,d34_at,simprocAttr,go_b67,bodyOf,Tryz.f67,d67_at,RI,initE,e_h1,h2',e_h3,h4',e_h5,h6',h7'',h7',lm_ik h10,h11'',h11',h15',lm_ik h18,kinV_at,kinVB_at,LN,NN,NT]
        ·have h15':=decide_eq_false h15
         conv=>arg 1;simp (disch:=first|exact Zd|fail) only[ZZ,d34_at,simprocAttr,go_b67,bodyOf,Tryz.f67,d67_at,RI,initE,e_h1,h2',e_h3,h4',e_h5,h6',h7'',h7',lm_ik h10,h11'',h11',h15']
         refine J.ite (λh20=> ?_) (λh20=> ?_)
         ·have h20':=decide_eq_true h20
          refine J.at λx32 h21 h22 h23=> ?_
          refine J.chk λh24=> ?_
          conv=>arg 1;simp (disch:=first|exact Zd|fail) only[ZZ,d34_at,simprocAttr,go_b67,bodyOf,Tryz.f67,d67_at,RI,initE,e_h1,h2',e_h3,h4',e_h5,h6',h7'',h7',lm_ik h10,h11'',h11',h15',h20',lm_ik h23]
          refine J.knormal (t:=(x15,x16.set x18.toNat x32,x17)) hj2 ?_
          simp (disch:=first|exact Zd|fail) only[ZZ,d34_at,simprocAttr,go_b67,bodyOf,Tryz.f67,d67_at,RI,initE,e_h1,h2',e_h3,h4',e_h5,h6',h7'',h7',lm_ik h10,h11'',h11',h15',h20',lm_ik h23,kinV_at,kinVB_at,LN,NN,NT]
         ·have h20':=decide_eq_false h20
          refine J.at λx33 h25 h26 h27=> ?_
          refine J.chk λh28=> ?_
          conv=>arg 1;simp (disch:=first|exact Zd|fail) only[ZZ,d34_at,simprocAttr,go_b67,bodyOf,Tryz.f67,d67_at,RI,initE,e_h1,h2',e_h3,h4',e_h5,h6',h7'',h7',lm_ik h10,h11'',h11',h15',h20',lm_bk h27]
          refine J.knormal (t:=(x15,x16,x17.set x18.toNat x33)) hj2 ?_
          simp (disch:=first|exact Zd|fail) only[ZZ,d34_at,simprocAttr,go_b67,bodyOf,Tryz.f67,d67_at,RI,initE,e_h1,h2',e_h3,h4',e_h5,h6',h7'',h7',lm_ik h10,h11'',h11',h15',h20',lm_bk h27,kinV_at,kinVB_at,LN,NN,NT]
      ·have h11':=decide_eq_false h11
       have h11'':decide (x27<0)=true:=decide_eq_true (by omega)
       conv=>arg 1;simp (disch:=first|exact Zd|fail) only[ZZ,d34_at,simprocAttr,go_b67,bodyOf,Tryz.f67,d67_at,RI,RIk,initE,e_h1,h2',e_h3,h4',e_h5,h6',h7'',h7',lm_ik h10,h11'',h11']
       refine J.eq ret_seq ?_
       conv=>arg 1;simp (disch:=first|exact Zd|fail) only[ZZ,d34_at,simprocAttr,go_b67,bodyOf,Tryz.f67,d67_at,RI,RIk,initE,e_h1,h2',e_h3,h4',e_h5,h6',h7'',h7',lm_ik h10,h11'',h11']
       refine J.next (s:=(x15,x16,x17,wk .i64 (x18+1))) hn1 ?_ ?_
       ·exact Ze
       ·exact Zh
     ·refine J.hd jn_at ?_
      refine J.eq go_seq ?_
      refine J.at λx34 h29 h30 h31=> ?_
      conv=>arg 1;simp (disch:=first|exact Zd|fail) only[ZZ,d34_at,simprocAttr,go_b67,bodyOf,Tryz.f67,d67_at,RI,RIk,initE,e_h1,h2',e_h3,h4',e_h5,h6',h7'',h7',lm_ik h31]
      refine J.ite (λh32=> ?_) (λh32=> ?_)
      ·have h32':=decide_eq_true h32
       have h32'':decide ((-1)<=x34)=false:=decide_eq_false (by omega)
       conv=>arg 1;simp (disch:=first|exact Zd|fail) only[ZZ,d34_at,simprocAttr,go_b67,bodyOf,Tryz.f67,d67_at,RI,RIk,initE,e_h1,h2',e_h3,h4',e_h5,h6',h7'',h7',lm_ik h31,h32'',h32']
       refine J.eq ret_seq ?_
       refine J.some ?_
       simp (maxSteps:=20000000) (disch:=first|exact Zd|fail) only[ZZ,d34_at,simprocAttr,go_b67,bodyOf,Tryz.f67,d67_at,RI,RIk,initE,e_h1,h2',e_h3,h4',e_h5,h6',h7'',h7',lm_ik h31,h32'',h32',FN]
      ·have h32':=decide_eq_false h32
       have h32'':decide ((-1)<=x34)=true:=decide_eq_true (by omega)
       conv=>arg 1;simp (disch:=first|exact Zd|fail) only[ZZ,d34_at,simprocAttr,go_b67,bodyOf,Tryz.f67,d67_at,RI,RIk,initE,e_h1,h2',e_h3,h4',e_h5,h6',h7'',h7',lm_ik h31,h32'',h32']
       refine J.eq ret_seq ?_
       conv=>arg 1;simp (disch:=first|exact Zd|fail) only[ZZ,d34_at,simprocAttr,go_b67,bodyOf,Tryz.f67,d67_at,RI,RIk,initE,e_h1,h2',e_h3,h4',e_h5,h6',h7'',h7',lm_ik h31,h32'',h32']
       refine J.ite (λh33=> ?_) (λh33=> ?_)
       ·have h33':=decide_eq_true h33
        have h33'':decide (x34<(wk .i64 ((wk .i64 ((x1.fF.length:Int)+(x1.fI.length:Int)))+(x1.fB.length:Int))))=false:=decide_eq_false (by omega)
        refine J.some ?_
        simp (maxSteps:=20000000) (disch:=first|exact Zd|fail) only[ZZ,d34_at,simprocAttr,go_b67,bodyOf,Tryz.f67,d67_at,RI,RIk,initE,e_h1,h2',e_h3,h4',e_h5,h6',h7'',h7',lm_ik h31,h32'',h32',h33'',h33',FN]
       ·have h33':=decide_eq_false h33
        have h33'':decide (x34<(wk .i64 ((wk .i64 ((x1.fF.length:Int)+(x1.fI.length:Int)))+(x1.fB.length:Int))))=true:=decide_eq_true (by omega)
        conv=>arg 1;simp (disch:=first|exact Zd|fail) only[ZZ,d34_at,simprocAttr,go_b67,bodyOf,Tryz.f67,d67_at,RI,RIk,initE,e_h1,h2',e_h3,h4',e_h5,h6',h7'',h7',lm_ik h31,h32'',h32',h33'',h33']
        refine J.jmp (t:=()) hj1 ?_ ?_
        ·exact Ze
        ·exact Zh
    ·have h7':=decide_eq_false h7
     have h7'':decide (x6.1<=x18)=true:=decide_eq_true (by omega)
     conv=>arg 1;simp (disch:=first|exact Zd|fail) only[ZZ,d34_at,simprocAttr,go_b67,bodyOf,Tryz.f67,d67_at,RI,RIk,initE,e_h1,h2',e_h3,h4',e_h5,h6',h7'',h7']
     refine J.eq ret_seq ?_
     refine J.some ?_
     simp (maxSteps:=20000000) (disch:=first|exact Zd|fail) only[ZZ,d34_at,simprocAttr,go_b67,bodyOf,Tryz.f67,d67_at,RI,RIk,initE,e_h1,h2',e_h3,h4',e_h5,h6',h7'',h7',FN]
   ·have h6':=decide_eq_false h6
    refine J.some ?_
    simp (maxSteps:=20000000) (disch:=first|exact Zd|fail) only[ZZ,d34_at,simprocAttr,go_b67,bodyOf,Tryz.f67,d67_at,RI,RIk,initE,e_h1,h2',e_h3,h4',e_h5,h6',FN]
  ·have h4':=decide_eq_false h4
   refine J.some ?_
   simp (maxSteps:=20000000) (disch:=first|exact Zd|fail) only[ZZ,d34_at,simprocAttr,go_b67,bodyOf,Tryz.f67,d67_at,RI,RIk,initE,e_h1,h2',e_h3,h4',FN]
 ·have h2':=decide_eq_false h2
  refine J.some ?_
  simp (maxSteps:=20000000) (disch:=first|exact Zd|fail) only[ZZ,d34_at,simprocAttr,go_b67,bodyOf,Tryz.f67,d67_at,RI,RIk,initE,e_h1,h2',FN]
noncomputable def t34(fu:Nat):CallP:=orE 11 (mkC (λ(t:T_Tensor)=>([.agg (c_T_Tensor t)]:List AV)) (λt=>ref05_Check fu t) e11) (orE 66 (mkC (λ(t:Int×(List Int))=>([.v (.int .i64 t.1),.arr t.2.length (lm (ik .i64) t.2)]:List AV)) (λt=>ref05_New fu t.1 t.2) e66) (orE 21 (mkC (λ(t:List Int)=>([.arr t.length (lm (ik .i64) t)]:List AV)) (λt=>ref04_Size fu t) e21) (noP)))
theorem t34_ok(fu:Nat):CpOK Tryz.prog (t34 fu):=orE_ok (orE_ok (orE_ok (noP_ok) (mkC_ok (λt b h=>ok21 fu t b h))) (mkC_ok (λt b h=>ok66 fu t.1 t.2 b h))) (mkC_ok (λt b h=>ok11 fu t b h))
theorem ok34(fu:Nat)(x1:T_Tensor)(x2:List Int)(x3:List Int)(r)(h:ref05_Pick fu x1 x2 x3=some r):PureOK Tryz.prog 34 [.agg (c_T_Tensor x1),.arr x2.length (lm (ik .i64) x2),.arr x3.length (lm (ik .i64) x3)] (e34 r):=
  pure_J mixed (cp:=t34 fu) (t34_ok fu) (ciE_ok mixed (t34_ok fu) noI_ok i67 noI_ok) i34 (w34 _ fu x1 x2 x3 (λa0 r h=>orE_hit (mkC_at (a:=a0) (by intro a b h;first|(exact rfl)|(simp only[INJ,IJ]at h;first|exact h|(simp_all [Prod.ext_iff]))) h)) (λa0 a1 r h=>orE_miss (by decide) (orE_hit (mkC_at (a:=(a0,a1)) (by intro a b h;first|(exact rfl)|(simp only[INJ,IJ]at h;first|exact h|(simp_all [Prod.ext_iff]))) h))) (λa0 r h=>orE_miss (by decide) (orE_miss (by decide) (orE_hit (mkC_at (a:=a0) (by intro a b h;first|(exact rfl)|(simp only[INJ,IJ]at h;first|exact h|(simp_all [Prod.ext_iff]))) h))))) h
def d14:List (Nat×List Nat):=[(0,[0]),(0,[5]),(0,[8,9,10,11,12,13,14,15,16,17,18]),(0,[]),(0,[1000004]),(0,[]),(0,[19,20]),(0,[]),(0,[21]),(0,[]),(0,[23,24]),(0,[]),(0,[25,26,27,28]),(0,[]),(0,[1,3,4,7,29,30,31,32,33,34,35,36]),(0,[]),(0,[6,37])]
def d14_at:=by have h:=tabL d14.eq_1;simp only[AllAt,Nat.zero_add,Nat.reduceAdd]at h;exact h
theorem i14:finfo Tryz.prog 14 d14=some ⟨bodyOf Tryz.f14,[.cell 2 31],[31]⟩:=finfo_at Tryz.func14 rfl (by kernel_rfl) (by kernel_rfl)
def e14:T_Tensor->AV:=λr=> .agg [.v (.int .i64 r.fType),.fresh 1 r.fDims.length (lm (ik .i64) r.fDims),.fresh 1 r.fF.length (lm (ik .u32) r.fF),.fresh 1 r.fI.length (lm (ik .i64) r.fI),.fresh 1 r.fB.length (lm (bk) r.fB)]
structure K34 (fu:Nat) (cp:CallP):Prop where
 ap: ∀ {a0:T_Tensor} {a1:List Int} {a2:List Int} {r},ref05_Pick fu a0 a1 a2=some r->cp 34 [.agg (c_T_Tensor a0),.arr a1.length (lm (ik .i64) a1),.arr a2.length (lm (ik .i64) a2)]=some (.tuple [.agg [.v (.int .i64 r.1.fType),.fresh 1 r.1.fDims.length (lm (ik .i64) r.1.fDims),.fresh 1 r.1.fF.length (lm (ik .u32) r.1.fF),.fresh 1 r.1.fI.length (lm (ik .i64) r.1.fI),.fresh 1 r.1.fB.length (lm (bk) r.1.fB)],.v (.int .i64 r.2)])
noncomputable def C34(fu:Nat):Cm Tryz.prog (T_Tensor×(List Int)×(List Int)) (T_Tensor×Int):=⟨34,λt=>[.agg (c_T_Tensor t.1),.arr t.2.1.length (lm (ik .i64) t.2.1),.arr t.2.2.length (lm (ik .i64) t.2.2)],λt=>ref05_Pick fu t.1 t.2.1 t.2.2,e34,λt b h=>ok34 fu t.1 t.2.1 t.2.2 b h,Zi⟩
theorem u34{fu:Nat}{cp:CallP}(H:Hit cp (C34 fu).ct):K34 fu cp:=⟨λ {a0 a1 a2 r} h=>(C34 fu).at H (a0,a1,a2) r h⟩
def law13_turned.m1:LJ 1 8 Unit ((List Int)×Int):=⟨λr s e=>[(1,er e 1),(2,er e 2),(3,er e 3),(4,.own (0,4,77) 0 s.1.length s.1.length),(5,.v (.int .i64 s.2))],λr s h=>[((0,1,0),hr h (0,1,0)),((0,2,0),hr h (0,2,0)),((0,4,77),.sl true true 1 s.1.length (lm (ik .i64) s.1))]⟩
def law13_turned.j1:LJ 1 14 Unit (List Int):=⟨λr t e=>[(1,er e 1),(2,er e 2),(3,er e 3),(4,.own (0,4,77) 0 t.length t.length)],λr t h=>[((0,1,0),hr h (0,1,0)),((0,2,0),hr h (0,2,0)),((0,4,77),.sl true true 1 t.length (lm (ik .i64) t))]⟩
set_option maxHeartbeats 20000000 in
open law13_turned in
theorem w14(cp:CallP)(fu:Nat)(x1:T_Tensor)(H1:K34 fu cp):J (go Tryz.prog noC cp noI 0 [] d14 fu (fin Tryz.prog [.cell 2 31] [31]) (bodyOf Tryz.f14) (initE 0 [.agg (c_T_Tensor x1)]) [] []) (law13_turned fu x1) e14:=by
 unfold law13_turned e14
 have da:=d14_at
 conv=>arg 1;simp only[bodyOf,Tryz.f14]
 have z0:=d14_at
 exact Wk
theorem ok14(fu:Nat)(x1:T_Tensor)(r)(h:law13_turned fu x1=some r):PureOK Tryz.prog 14 [.agg (c_T_Tensor x1)] (e14 r):=pureT mixed [(C34 fu).ct] (ids:=[34]) rfl (by decide) i14 (C:=noC) (ci:=λcp=>noI) (λcp ok=>noI_ok) (λcp H=>w14 cp fu x1 (u34 H.1)) h
def d35:List (Nat×List Nat):=[(0,[4]),(0,[0,1,5]),(0,[6,7,8,9]),(0,[]),(0,[]),(0,[]),(0,[]),(0,[]),(0,[11,12,13]),(0,[]),(0,[15,16]),(0,[]),(9,[17,18,19,20,21,22,23,24]),(0,[]),(0,[]),(0,[]),(0,[])]
def d35_at:=by have h:=tabL d35.eq_1;simp only[AllAt,Nat.zero_add,Nat.reduceAdd]at h;exact h
theorem i35:finfo Tryz.prog 35 d35=some ⟨bodyOf Tryz.f35,[.tmp 4],[4]⟩:=finfo_at Tryz.func35 rfl (by kernel_rfl) (by kernel_rfl)
def e35:Bool->AV:=λr=> .v (.bool r)
def ref04_SameInts.m1:LJ 1 8 Unit Int:=⟨λr s e=>[(0,er e 0),(1,er e 1),(5,.v (.int .i64 s))],λr s h=>[]⟩
set_option maxHeartbeats 20000000 in
open ref04_SameInts in
theorem w35(cp:CallP)(fu:Nat)(x1:List Int)(x2:List Int):J (go Tryz.prog noC cp noI 0 [] d35 fu (fin Tryz.prog [.tmp 4] [4]) (bodyOf Tryz.f35) (initE 0 [.arr x1.length (lm (ik .i64) x1),.arr x2.length (lm (ik .i64) x2)]) [] []) (ref04_SameInts fu x1 x2) e35:=by
 unfold ref04_SameInts e35
 have da:=d35_at
 conv=>arg 1;simp only[bodyOf,Tryz.f35]
 have z0:=d35_at
 exact Wk
theorem ok35(fu:Nat)(x1:List Int)(x2:List Int)(r)(h:ref04_SameInts fu x1 x2=some r):PureOK Tryz.prog 35 [.arr x1.length (lm (ik .i64) x1),.arr x2.length (lm (ik .i64) x2)] (e35 r):=pureT mixed [] (ids:=[]) rfl (by decide) i35 (C:=noC) (ci:=λcp=>noI) (λcp ok=>noI_ok) (λcp H=>w35 cp fu x1 x2) h
def d15:List (Nat×List Nat):=[(0,[0,1,4]),(0,[5]),(0,[8,9,10,11,12,13,14,15,16,17,18,19,20,21,22,23,24,25,26,27,28,29,30,31,32,33,34,35,36,37,38,39,40,41,42,43,44,45,46]),(0,[]),(0,[]),(0,[6]),(0,[]),(0,[]),(0,[48,49,50,51]),(0,[2,3,7]),(0,[53,54]),(0,[]),(11,[55,56,57,58,59,60,61,62,63,64]),(0,[]),(0,[]),(0,[]),(0,[]),(0,[]),(0,[66,67,68,69]),(0,[]),(0,[71,72]),(0,[]),(11,[73,74,75,76,77,78,79,80,81,82]),(0,[]),(0,[]),(0,[]),(0,[]),(0,[]),(0,[84,85,86,87]),(0,[]),(0,[89,90]),(0,[]),(11,[91,92,93,94,95,96,97,98,99,100]),(0,[]),(0,[]),(0,[]),(0,[])]
def d15_at:=by have h:=tabL d15.eq_1;simp only[AllAt,Nat.zero_add,Nat.reduceAdd]at h;exact h
theorem i15:finfo Tryz.prog 15 d15=some ⟨bodyOf Tryz.f15,[.tmp 4],[4]⟩:=finfo_at Tryz.func15 rfl (by kernel_rfl) (by kernel_rfl)
def e15:Bool->AV:=λr=> .v (.bool r)
structure K35 (fu:Nat) (cp:CallP):Prop where
 ap: ∀ {a0:List Int} {a1:List Int} {r},ref04_SameInts fu a0 a1=some r->cp 35 [.arr a0.length (lm (ik .i64) a0),.arr a1.length (lm (ik .i64) a1)]=some (.v (.bool r))
noncomputable def C35(fu:Nat):Cm Tryz.prog ((List Int)×(List Int)) Bool:=⟨35,λt=>[.arr t.1.length (lm (ik .i64) t.1),.arr t.2.length (lm (ik .i64) t.2)],λt=>ref04_SameInts fu t.1 t.2,e35,λt b h=>ok35 fu t.1 t.2 b h,Zi⟩
theorem u35{fu:Nat}{cp:CallP}(H:Hit cp (C35 fu).ct):K35 fu cp:=⟨λ {a0 a1 r} h=>(C35 fu).at H (a0,a1) r h⟩
def ref05_Same.m1:LJ 1 28 Unit Int:=⟨λr s e=>[(2,er e 2),(3,er e 3),(7,.v (.int .i64 s))],λr s h=>[((0,2,0),hr h (0,2,0)),((0,3,0),hr h (0,3,0))]⟩
def ref05_Same.m2:LJ 2 18 Unit Int:=⟨λr s e=>[(2,er e 2),(3,er e 3),(6,.v (.int .i64 s))],λr s h=>[((0,2,0),hr h (0,2,0)),((0,3,0),hr h (0,3,0))]⟩
def ref05_Same.j3:LJ 3 26 Unit Unit:=⟨λr t e=>[(2,er e 2),(3,er e 3)],λr t h=>[((0,2,0),hr h (0,2,0)),((0,3,0),hr h (0,3,0))]⟩
def ref05_Same.m3:LJ 3 8 Unit Int:=⟨λr s e=>[(2,er e 2),(3,er e 3),(5,.v (.int .i64 s))],λr s h=>[((0,2,0),hr h (0,2,0)),((0,3,0),hr h (0,3,0))]⟩
def ref05_Same.j2:LJ 2 16 Unit Unit:=⟨λr t e=>[(2,er e 2),(3,er e 3)],λr t h=>[((0,2,0),hr h (0,2,0)),((0,3,0),hr h (0,3,0))]⟩
def ref05_Same.j1:LJ 1 6 Unit Unit:=⟨λr t e=>[(2,er e 2),(3,er e 3)],λr t h=>[((0,2,0),hr h (0,2,0)),((0,3,0),hr h (0,3,0))]⟩
set_option maxHeartbeats 20000000 in
open ref05_Same in
theorem w15(cp:CallP)(fu:Nat)(x1:T_Tensor)(x2:T_Tensor)(H1:K35 fu cp):J (go Tryz.prog noC cp noI 0 [] d15 fu (fin Tryz.prog [.tmp 4] [4]) (bodyOf Tryz.f15) (initE 0 [.agg (c_T_Tensor x1),.agg (c_T_Tensor x2)]) [] []) (ref05_Same fu x1 x2) e15:=by
 unfold ref05_Same e15
 have da:=d15_at
 conv=>arg 1;simp only[bodyOf,Tryz.f15]
 have z0:=d15_at
 exact Wk
theorem ok15(fu:Nat)(x1:T_Tensor)(x2:T_Tensor)(r)(h:ref05_Same fu x1 x2=some r):PureOK Tryz.prog 15 [.agg (c_T_Tensor x1),.agg (c_T_Tensor x2)] (e15 r):=pureT mixed [(C35 fu).ct] (ids:=[35]) rfl (by decide) i15 (C:=noC) (ci:=λcp=>noI) (λcp ok=>noI_ok) (λcp H=>w15 cp fu x1 x2 (u35 H.1)) h
end Go.Av
